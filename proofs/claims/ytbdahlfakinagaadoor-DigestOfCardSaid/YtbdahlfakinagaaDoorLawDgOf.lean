/- DigestOf: the walk. -/
import Derived.Test.YtbdahlfakinagaaDoorDgK0
import Derived.Test.YtbdahlfakinagaaDoorWithin
set_option linter.unusedVariables false
namespace Go.Proofs.YtbdahlfakinagaaDoor
open Go.RowKit Go.Rg

theorem By.one {c : Int} (h : 0 ≤ c ∧ c ≤ 255) : By [c] := fun x hx => by
  rw [List.mem_singleton.1 hx]
  exact h
theorem BS.at32 {w : World} {v : Value} {l : List Int} {n : Nat} (h : BS w v l) (hl : l.length = n) : ∃ A c, v = .slice A n c := by
  obtain ⟨A, m, c, rfl, hr, _⟩ := h
  have := hr.len
  rw [bytes, List.length_map, hl] at this
  exact ⟨A, c, by rw [this]⟩
set_option maxRecDepth 100000 in
set_option maxHeartbeats 8000000 in
theorem digestOf_any (v1 : Value) (l1 : List Int) (more c : Int) (w : World) (hg : Glob w) (hg2 : 2 ≤ w.heap.size) (h1 : BS w v1 l1) (b1 : By l1) (hc : 0 ≤ c ∧ c ≤ 255) :
    Calls Tryd.prog 3 #[v1, .int .i64 more, .int .u8 c] w fun e w' => e = .returned (.bool true) ∧ Ext w w' := by
  obtain ⟨i0, hi, hz0, hz1, hz2⟩ := info_parts Tryd.infoByte
  have HG0 := Lib.hid (And.intro hg hg2)
  have HS := Lib.hid (And.intro h1 (And.intro b1 hc))
  clear hg hg2 h1 b1 hc
  go_enter Tryd.func3, Tryd.ntmps3
  go_wp2_with fail
  refine calls_at fun W hW => ?_
  obtain ⟨B, hBe⟩ : ∃ B, B = w.heap.size := ⟨_, rfl⟩
  have hO : SmR w B (.slice (some ⟨B, 0, none⟩) 0 0) [] W := by
    rw [hW, hBe]
    exact ⟨own_empty w w.heap.size 5 (Nat.le_refl _), (by repeat (first | exact Ext.refl _ | assumption | apply Ext.plus_ | apply Ext.alloc | apply Ext.drew)), by simp⟩
  rw [← hBe]
  have hwB : w.heap.size ≤ B := by omega
  clear hW hBe
  refine (short_bs v1 l1 300 300 rfl W (HS.out.1.lift hO.ext) HS.out.2.1 (by decide)).mono ?_
  rintro e w' ⟨A1, n1, c1, s1, rfl, hB1, hy, hn, rfl⟩
  have HO := Lib.hid hO
  have HB := Lib.hid (And.intro hB1 (And.intro hy hn))
  clear hO hB1 hy hn
  go_wp2_with (with_reducible show wpList _ _ _ (⟨some 12, _, _, _, _, _⟩ :: _) _ _; refine Lock.out ?_)
  refine ⟨?_, trivial⟩
  refine wl_at fun Y2 hY2 => ?_
  rw [← hY2] at HO HB
  clear hY2
  refine wpList_app _ rfl (.tmp 9) (.tmp 11) 22 rfl _ _ rfl rfl (app_own _ B 22 _ 5 i0 (.int .u8 0) 1 Tryd.underlying22 hi hz0 hz1 hz2 rfl _ _ _ HO.out.own _ _ _ _ (bytes s1) HB.out.1.at_.1 (bytes_one _) (by have := HB.out.2.2; have h5 := HB.out.1.at_.2.2.2.2; unfold maxLen; simp only [List.length_nil]; omega) (by have := HB.out.2.2; have h5 := HB.out.1.at_.2.2.2.2; simp only [List.length_nil]; omega) HO.out.size) ?_
  rintro v' W2 ha
  have hs2 := HO.out.apped HB.out.1.at_.2.2.2.2 ha hwB
  rw [List.nil_append] at hs2
  have HL0 := Lib.hid (And.intro hs2 (And.intro HB.out.2.1 HB.out.2.2))
  clear hs2 ha HB HO
  go_wp2_with fail
  refine (within_any more 140 W2 (by decide) (by decide)).mono ?_
  obtain ⟨q0, hq0⟩ : ∃ q : Nat, more % 140 = (q : Int) := ⟨(more % 140).toNat, by omega⟩
  have hq1 : q0 ≤ 140 := by omega
  rw [hq0]
  clear hq0
  rintro e w' ⟨rfl, rfl⟩
  go_wp2
  go_loopw [0, 7] (fun v0 v7 wr => ∃ (q : Nat) (l : List Int), v7 = nw q ∧ q ≤ 140 ∧ Hid (SmR w B v0 l wr ∧ By l ∧ l.length + q ≤ 440)) (fun _ v7 _ => (intOf v7).toNat)
  case atStart => exact ⟨q0, s1, rfl, hq1, Lib.hid ⟨HL0.out.1, HL0.out.2.1, by have := HL0.out.2.2; omega⟩⟩
  case round =>
    clear HL0 hq1
    obtain ⟨q, l, rfl, hq, HL⟩ := hrel
    rcases q with _ | q
    · have HL2 : Hid (SmR w B u0 l wr ∧ By l ∧ l.length ≤ 440) := Lib.hid ⟨HL.out.1, HL.out.2.1, HL.out.2.2⟩
      obtain ⟨Az, cz, hv0, _, _⟩ := own_form HL2.out.1.own
      obtain ⟨nz, hn0⟩ : ∃ n, n = l.length := ⟨_, rfl⟩
      rw [← hn0] at hv0
      subst hv0
      clear hn0 HL hq
      go_wp2_with fail
      refine calls_at fun X hX => ?_
      obtain ⟨V, hVe⟩ : ∃ V, V = wr.heap.size := ⟨_, rfl⟩
      have hcl : Box 0 [.slice Az nz cz] V X := by
        rw [hX, hVe]
        repeat' (first | with_reducible assumption | ((with_reducible refine Box.fresh ?fb ?fn ?fr); (case fb => first | omega | (simp <;> omega)); (case fn => first | omega | (simp <;> omega)); (case fr => rfl)) | with_reducible apply Box.up | with_reducible apply Box.drew_ | with_reducible apply Box.drewN_ | with_reducible apply Box.plus_ | with_reducible apply Box.put | with_reducible refine Box.off ?_ (by omega))
        all_goals first | rfl | (simp; done)
      have hE3 : Ext wr X := by
        rw [hX]
        repeat' (first | with_reducible assumption | with_reducible exact Ext.refl _ | with_reducible apply Ext.alloc | with_reducible apply Ext.drew | with_reducible apply Ext.drewN | with_reducible apply Ext.plus_ | with_reducible refine Ext.put ?_ (by omega))
      rw [← hVe]
      clear hX hVe
      have HE3 := Lib.hid hE3
      have HX := Lib.hid hcl
      clear hE3 hcl
      have HL := Lib.hid (And.intro (HL2.out.1.ext' HE3.out) (And.intro HL2.out.2.1 HL2.out.2.2))
      have hbs := BS.of_own HL.out.1.own
      refine (of_one X (HG0.out.1.ext HL.out.1.ext) (Nat.le_trans HG0.out.2 HL.out.1.ext.size) V (.slice Az nz cz) l ⟨HX.out.lt, fun j u hu => by
        have hj : j < [Value.slice Az nz cz].length := (List.getElem?_eq_some_iff.1 hu).1
        rw [HX.out.cell j hj]
        exact hu⟩ hbs HL.out.2.1 (Nat.le_trans HL.out.2.2 (by decide))).mono ?_
      rintro e X4 ⟨x8, rfl, hb, hE⟩
      obtain ⟨A8, c8, rfl⟩ := hb.at32 (sha_len _)
      have H4 := Lib.hid (And.intro hb (And.intro (hbs.lift hE) (HL.out.1.ext.trans hE)))
      clear hb hbs hE HX HL2 HE3
      go_upto_region 7 with fail
      refine wp_at fun Y hY => ?_
      rw [← hY] at H4
      have K8 := Lib.hid H4.out.1
      have K0 := Lib.hid H4.out.2.1
      have HE := Lib.hid H4.out.2.2
      have HG := Lib.hid (HG0.out.1.ext HE.out)
      have h2 := Nat.le_trans HG0.out.2 HE.out.size
      clear hY H4 HG0
      refine act_at fun A0 hAq => ?_
      have hsz : A0.tmps.size = 54 := by
        rw [hAq]
        rfl
      have hA0 : A0.tmps.getD 0 undef = .slice Az nz cz := by
        rw [hAq]
        first | rfl | kernel_rfl
      have hA8 : A0.tmps.getD 8 undef = .slice A8 32 c8 := by
        rw [hAq]
        first | rfl | kernel_rfl
      have HAq := Lib.hid hAq
      clear hAq
      apply wp_region_ext 28 [is (.slice A8 32 c8), is (.string (strOfNums (shaOf l))), is (.slice Az nz cz), isBS (shaOf l), is (.string (strOfNums (shaOf l))), is (.bool true), is (.bool true), is (.slice A8 32 c8), is (.int .i64 32), is (.bool true), is (.bool true), is (.bool true), is (.slice A8 32 c8), is (.string (strOfNums (hexI (shaOf l)))), is (.slice A8 32 c8), is (.string (strOfNums (hexI (shaOf l)))), is (.bool true), is (.bool true), is (.bool true), is (.slice Az nz cz), is (.string (strOfNums (hexI l))), is (.slice Az nz cz), is (.string (strOfNums (hexI l))), is (.bool true), is (.bool true), is (.bool true), is (.bool true), is (.bool true)] (by kernel_rfl) (by kernel_rfl) rfl
      case hops =>
        simp only [List.take_succ_cons, List.take_zero]
        with_reducible refine xOps_cons ?_ ?_
        · with_reducible refine xop_un ?_ ?_
          · rfl
          · intro vs x F hF hd
            have e1 : F.tmps.getD 8 undef = .slice A8 32 c8 := (hF.a 8 (by kernel_rfl) (by rw [hsz]; rfl)).trans hA8
            exact m_v e1
        with_reducible refine xOps_cons ?_ ?_
        · with_reducible refine xop_un ?_ ?_
          · rfl
          · intro vs x F hF hd
            have e1 : F.tmps.getD 26 undef = .slice A8 32 c8 := (hF.v 26 0 (by kernel_rfl) (by rw [hsz]; rfl)).trans (dep_at hd 0 0 (is (.slice A8 32 c8)) (by kernel_rfl) (by kernel_rfl))
            have he1 := BS.lift K8.out (show Ext Y (Y.plus x) from (by repeat (first | exact Ext.refl _ | assumption | apply Ext.plus_ | apply Ext.alloc | apply Ext.drew)))
            exact comes_str (.tmp 26) rfl _ e1 (shaOf l) he1 ⟨Ext.refl _, rfl⟩
        with_reducible refine xOps_cons ?_ ?_
        · with_reducible refine xop_un ?_ ?_
          · rfl
          · intro vs x F hF hd
            have e1 : F.tmps.getD 0 undef = .slice Az nz cz := (hF.a 0 (by kernel_rfl) (by rw [hsz]; rfl)).trans hA0
            exact m_v e1
        with_reducible refine xOps_cons ?_ ?_
        · with_reducible refine xop_un ?_ ?_
          · rfl
          · intro vs x F hF hd
            have e1 : F.tmps.getD 28 undef = .slice Az nz cz := (hF.v 28 2 (by kernel_rfl) (by rw [hsz]; rfl)).trans (dep_at hd 0 2 (is (.slice Az nz cz)) (by kernel_rfl) (by kernel_rfl))
            have he1 := BS.lift K0.out (show Ext Y (Y.plus x) from (by repeat (first | exact Ext.refl _ | assumption | apply Ext.plus_ | apply Ext.alloc | apply Ext.drew)))
            clear hF hd
            simp only [comes]
            go_simp
            refine (refOf_bs _ l _ he1 HL.out.2.1 (Nat.le_trans HL.out.2.2 (by decide))).mono ?_
            rintro e w' ⟨u, rfl, hb, hE⟩
            exact ⟨_, rfl, hE, hb⟩
        with_reducible refine xOps_cons ?_ ?_
        · with_reducible refine xop_un ?_ ?_
          · rfl
          · intro vs x F hF hd
            have e1 : F.tmps.getD 29 undef = vs 3 := hF.v 29 3 (by kernel_rfl) (by rw [hsz]; rfl)
            have pe1 : isBS (shaOf l) (vs 3) (Y.plus x) := dep_at hd 0 3 (isBS (shaOf l)) (by kernel_rfl) (by kernel_rfl)
            have he1 := pe1
            exact comes_str (.tmp 29) rfl _ e1 (shaOf l) he1 ⟨Ext.refl _, rfl⟩
        with_reducible refine xOps_cons ?_ ?_
        · with_reducible refine xop_un ?_ ?_
          · rfl
          · intro vs x F hF hd
            have e0 : F.tmps.getD 27 undef = .string (strOfNums (shaOf l)) := (hF.v 27 1 (by kernel_rfl) (by rw [hsz]; rfl)).trans (dep_at hd 0 1 (is (.string (strOfNums (shaOf l)))) (by kernel_rfl) (by kernel_rfl))
            have e1 : F.tmps.getD 30 undef = .string (strOfNums (shaOf l)) := (hF.v 30 4 (by kernel_rfl) (by rw [hsz]; rfl)).trans (dep_at hd 1 4 (is (.string (strOfNums (shaOf l)))) (by kernel_rfl) (by kernel_rfl))
            exact s_eqs e0 e1
        with_reducible refine xOps_cons ?_ ?_
        · with_reducible refine xop_un ?_ ?_
          · rfl
          · intro vs x F hF hd
            have e1 : F.tmps.getD 31 undef = .bool true := (hF.v 31 5 (by kernel_rfl) (by rw [hsz]; rfl)).trans (dep_at hd 0 5 (is (.bool true)) (by kernel_rfl) (by kernel_rfl))
            exact m_v e1
        with_reducible refine xOps_cons ?_ ?_
        · with_reducible refine xop_on 6 32 6 0 ?_ ?_ ?_ ?_ ?_ ?_ ?_
          · rfl
          · kernel_rfl
          · kernel_rfl
          · rw [hsz]; rfl
          · kernel_rfl
          · kernel_rfl
          · intro vs x F hF hd
            have e1 : F.tmps.getD 8 undef = .slice A8 32 c8 := (hF.a 8 (by kernel_rfl) (by rw [hsz]; rfl)).trans hA8
            exact m_v e1
        with_reducible refine xOps_cons ?_ ?_
        · with_reducible refine xop_on 6 32 6 1 ?_ ?_ ?_ ?_ ?_ ?_ ?_
          · rfl
          · kernel_rfl
          · kernel_rfl
          · rw [hsz]; rfl
          · kernel_rfl
          · kernel_rfl
          · intro vs x F hF hd
            have e33 : F.tmps.getD 33 undef = .slice A8 32 c8 := (hF.v 33 7 (by kernel_rfl) (by rw [hsz]; rfl)).trans (dep_at hd 0 7 (is (.slice A8 32 c8)) (by kernel_rfl) (by kernel_rfl))
            clear hF hd
            simp only [comes]
            go_simp
            first | exact ⟨Ext.refl _, rfl⟩ | exact Ext.refl _
        with_reducible refine xOps_cons ?_ ?_
        · with_reducible refine xop_on 6 32 6 1 ?_ ?_ ?_ ?_ ?_ ?_ ?_
          · rfl
          · kernel_rfl
          · kernel_rfl
          · rw [hsz]; rfl
          · kernel_rfl
          · kernel_rfl
          · intro vs x F hF hd
            have e34 : F.tmps.getD 34 undef = .int .i64 32 := (hF.v 34 8 (by kernel_rfl) (by rw [hsz]; rfl)).trans (dep_at hd 0 8 (is (.int .i64 32)) (by kernel_rfl) (by kernel_rfl))
            clear hF hd
            simp only [comes]
            go_simp
            first | exact ⟨Ext.refl _, rfl⟩ | exact Ext.refl _
        with_reducible refine xOps_cons ?_ ?_
        · with_reducible refine xop_un ?_ ?_
          · rfl
          · intro vs x F hF hd
            have e32 : F.tmps.getD 32 undef = .bool true := (hF.v 32 6 (by kernel_rfl) (by rw [hsz]; rfl)).trans (dep_at hd 0 6 (is (.bool true)) (by kernel_rfl) (by kernel_rfl))
            have e35 : F.tmps.getD 35 undef = .bool true := (hF.v 35 9 (by kernel_rfl) (by rw [hsz]; rfl)).trans (dep_at hd 1 9 (is (.bool true)) (by kernel_rfl) (by kernel_rfl))
            clear hF hd
            simp only [comes]
            go_simp
            first | exact ⟨Ext.refl _, rfl⟩ | exact Ext.refl _
        with_reducible refine xOps_cons ?_ ?_
        · with_reducible refine xop_un ?_ ?_
          · rfl
          · intro vs x F hF hd
            have e1 : F.tmps.getD 36 undef = .bool true := (hF.v 36 10 (by kernel_rfl) (by rw [hsz]; rfl)).trans (dep_at hd 0 10 (is (.bool true)) (by kernel_rfl) (by kernel_rfl))
            exact m_v e1
        with_reducible refine xOps_cons ?_ ?_
        · with_reducible refine xop_on 11 37 11 0 ?_ ?_ ?_ ?_ ?_ ?_ ?_
          · rfl
          · kernel_rfl
          · kernel_rfl
          · rw [hsz]; rfl
          · kernel_rfl
          · kernel_rfl
          · intro vs x F hF hd
            have e1 : F.tmps.getD 8 undef = .slice A8 32 c8 := (hF.a 8 (by kernel_rfl) (by rw [hsz]; rfl)).trans hA8
            exact m_v e1
        with_reducible refine xOps_cons ?_ ?_
        · with_reducible refine xop_on 11 37 11 2 ?_ ?_ ?_ ?_ ?_ ?_ ?_
          · rfl
          · kernel_rfl
          · kernel_rfl
          · rw [hsz]; rfl
          · kernel_rfl
          · kernel_rfl
          · intro vs x F hF hd
            have e1 : F.tmps.getD 38 undef = .slice A8 32 c8 := (hF.v 38 12 (by kernel_rfl) (by rw [hsz]; rfl)).trans (dep_at hd 0 12 (is (.slice A8 32 c8)) (by kernel_rfl) (by kernel_rfl))
            have he1 := BS.lift K8.out (show Ext Y (Y.plus x) from (by repeat (first | exact Ext.refl _ | assumption | apply Ext.plus_ | apply Ext.alloc | apply Ext.drew)))
            clear hF hd
            simp only [comes]
            go_simp
            refine (text_bs _ (shaOf l) _ he1 (by_sha _) (by rw [sha_len]; decide)).mono ?_
            rintro e w' ⟨rfl, hE⟩
            first | exact ⟨_, rfl, hE, rfl⟩ | exact ⟨_, rfl, hE⟩ | exact ⟨rfl, hE⟩ | exact ⟨_, hE⟩ | exact hE
        with_reducible refine xOps_cons ?_ ?_
        · with_reducible refine xop_on 11 37 11 0 ?_ ?_ ?_ ?_ ?_ ?_ ?_
          · rfl
          · kernel_rfl
          · kernel_rfl
          · rw [hsz]; rfl
          · kernel_rfl
          · kernel_rfl
          · intro vs x F hF hd
            have e1 : F.tmps.getD 8 undef = .slice A8 32 c8 := (hF.a 8 (by kernel_rfl) (by rw [hsz]; rfl)).trans hA8
            exact m_v e1
        with_reducible refine xOps_cons ?_ ?_
        · with_reducible refine xop_on 11 37 11 2 ?_ ?_ ?_ ?_ ?_ ?_ ?_
          · rfl
          · kernel_rfl
          · kernel_rfl
          · rw [hsz]; rfl
          · kernel_rfl
          · kernel_rfl
          · intro vs x F hF hd
            have e1 : F.tmps.getD 40 undef = .slice A8 32 c8 := (hF.v 40 14 (by kernel_rfl) (by rw [hsz]; rfl)).trans (dep_at hd 0 14 (is (.slice A8 32 c8)) (by kernel_rfl) (by kernel_rfl))
            have he1 := BS.lift K8.out (show Ext Y (Y.plus x) from (by repeat (first | exact Ext.refl _ | assumption | apply Ext.plus_ | apply Ext.alloc | apply Ext.drew)))
            clear hF hd
            simp only [comes]
            go_simp
            refine (refText_bs _ (shaOf l) _ he1 (by_sha _) (by rw [sha_len]; decide)).mono ?_
            rintro e w' ⟨rfl, hE⟩
            first | exact ⟨_, rfl, hE, rfl⟩ | exact ⟨_, rfl, hE⟩ | exact ⟨rfl, hE⟩ | exact ⟨_, hE⟩ | exact hE
        with_reducible refine xOps_cons ?_ ?_
        · with_reducible refine xop_on 11 37 11 2 ?_ ?_ ?_ ?_ ?_ ?_ ?_
          · rfl
          · kernel_rfl
          · kernel_rfl
          · rw [hsz]; rfl
          · kernel_rfl
          · kernel_rfl
          · intro vs x F hF hd
            have e0 : F.tmps.getD 39 undef = .string (strOfNums (hexI (shaOf l))) := (hF.v 39 13 (by kernel_rfl) (by rw [hsz]; rfl)).trans (dep_at hd 0 13 (is (.string (strOfNums (hexI (shaOf l))))) (by kernel_rfl) (by kernel_rfl))
            have e1 : F.tmps.getD 41 undef = .string (strOfNums (hexI (shaOf l))) := (hF.v 41 15 (by kernel_rfl) (by rw [hsz]; rfl)).trans (dep_at hd 1 15 (is (.string (strOfNums (hexI (shaOf l))))) (by kernel_rfl) (by kernel_rfl))
            exact s_eqs e0 e1
        with_reducible refine xOps_cons ?_ ?_
        · with_reducible refine xop_un ?_ ?_
          · rfl
          · intro vs x F hF hd
            have e37 : F.tmps.getD 37 undef = .bool true := (hF.v 37 11 (by kernel_rfl) (by rw [hsz]; rfl)).trans (dep_at hd 0 11 (is (.bool true)) (by kernel_rfl) (by kernel_rfl))
            have e42 : F.tmps.getD 42 undef = .bool true := (hF.v 42 16 (by kernel_rfl) (by rw [hsz]; rfl)).trans (dep_at hd 1 16 (is (.bool true)) (by kernel_rfl) (by kernel_rfl))
            clear hF hd
            simp only [comes]
            go_simp
            first | exact ⟨Ext.refl _, rfl⟩ | exact Ext.refl _
        with_reducible refine xOps_cons ?_ ?_
        · with_reducible refine xop_un ?_ ?_
          · rfl
          · intro vs x F hF hd
            have e1 : F.tmps.getD 43 undef = .bool true := (hF.v 43 17 (by kernel_rfl) (by rw [hsz]; rfl)).trans (dep_at hd 0 17 (is (.bool true)) (by kernel_rfl) (by kernel_rfl))
            exact m_v e1
        with_reducible refine xOps_cons ?_ ?_
        · with_reducible refine xop_on 18 44 18 0 ?_ ?_ ?_ ?_ ?_ ?_ ?_
          · rfl
          · kernel_rfl
          · kernel_rfl
          · rw [hsz]; rfl
          · kernel_rfl
          · kernel_rfl
          · intro vs x F hF hd
            have e1 : F.tmps.getD 0 undef = .slice Az nz cz := (hF.a 0 (by kernel_rfl) (by rw [hsz]; rfl)).trans hA0
            exact m_v e1
        with_reducible refine xOps_cons ?_ ?_
        · with_reducible refine xop_on 18 44 18 2 ?_ ?_ ?_ ?_ ?_ ?_ ?_
          · rfl
          · kernel_rfl
          · kernel_rfl
          · rw [hsz]; rfl
          · kernel_rfl
          · kernel_rfl
          · intro vs x F hF hd
            have e1 : F.tmps.getD 45 undef = .slice Az nz cz := (hF.v 45 19 (by kernel_rfl) (by rw [hsz]; rfl)).trans (dep_at hd 0 19 (is (.slice Az nz cz)) (by kernel_rfl) (by kernel_rfl))
            have he1 := BS.lift K0.out (show Ext Y (Y.plus x) from (by repeat (first | exact Ext.refl _ | assumption | apply Ext.plus_ | apply Ext.alloc | apply Ext.drew)))
            clear hF hd
            simp only [comes]
            go_simp
            refine (text_bs _ l _ he1 HL.out.2.1 (Nat.le_trans HL.out.2.2 (by decide))).mono ?_
            rintro e w' ⟨rfl, hE⟩
            first | exact ⟨_, rfl, hE, rfl⟩ | exact ⟨_, rfl, hE⟩ | exact ⟨rfl, hE⟩ | exact ⟨_, hE⟩ | exact hE
        with_reducible refine xOps_cons ?_ ?_
        · with_reducible refine xop_on 18 44 18 0 ?_ ?_ ?_ ?_ ?_ ?_ ?_
          · rfl
          · kernel_rfl
          · kernel_rfl
          · rw [hsz]; rfl
          · kernel_rfl
          · kernel_rfl
          · intro vs x F hF hd
            have e1 : F.tmps.getD 0 undef = .slice Az nz cz := (hF.a 0 (by kernel_rfl) (by rw [hsz]; rfl)).trans hA0
            exact m_v e1
        with_reducible refine xOps_cons ?_ ?_
        · with_reducible refine xop_on 18 44 18 2 ?_ ?_ ?_ ?_ ?_ ?_ ?_
          · rfl
          · kernel_rfl
          · kernel_rfl
          · rw [hsz]; rfl
          · kernel_rfl
          · kernel_rfl
          · intro vs x F hF hd
            have e1 : F.tmps.getD 47 undef = .slice Az nz cz := (hF.v 47 21 (by kernel_rfl) (by rw [hsz]; rfl)).trans (dep_at hd 0 21 (is (.slice Az nz cz)) (by kernel_rfl) (by kernel_rfl))
            have he1 := BS.lift K0.out (show Ext Y (Y.plus x) from (by repeat (first | exact Ext.refl _ | assumption | apply Ext.plus_ | apply Ext.alloc | apply Ext.drew)))
            clear hF hd
            simp only [comes]
            go_simp
            refine (refText_bs _ l _ he1 HL.out.2.1 (Nat.le_trans HL.out.2.2 (by decide))).mono ?_
            rintro e w' ⟨rfl, hE⟩
            first | exact ⟨_, rfl, hE, rfl⟩ | exact ⟨_, rfl, hE⟩ | exact ⟨rfl, hE⟩ | exact ⟨_, hE⟩ | exact hE
        with_reducible refine xOps_cons ?_ ?_
        · with_reducible refine xop_on 18 44 18 2 ?_ ?_ ?_ ?_ ?_ ?_ ?_
          · rfl
          · kernel_rfl
          · kernel_rfl
          · rw [hsz]; rfl
          · kernel_rfl
          · kernel_rfl
          · intro vs x F hF hd
            have e0 : F.tmps.getD 46 undef = .string (strOfNums (hexI l)) := (hF.v 46 20 (by kernel_rfl) (by rw [hsz]; rfl)).trans (dep_at hd 0 20 (is (.string (strOfNums (hexI l)))) (by kernel_rfl) (by kernel_rfl))
            have e1 : F.tmps.getD 48 undef = .string (strOfNums (hexI l)) := (hF.v 48 22 (by kernel_rfl) (by rw [hsz]; rfl)).trans (dep_at hd 1 22 (is (.string (strOfNums (hexI l)))) (by kernel_rfl) (by kernel_rfl))
            exact s_eqs e0 e1
        with_reducible refine xOps_cons ?_ ?_
        · with_reducible refine xop_un ?_ ?_
          · rfl
          · intro vs x F hF hd
            have e44 : F.tmps.getD 44 undef = .bool true := (hF.v 44 18 (by kernel_rfl) (by rw [hsz]; rfl)).trans (dep_at hd 0 18 (is (.bool true)) (by kernel_rfl) (by kernel_rfl))
            have e49 : F.tmps.getD 49 undef = .bool true := (hF.v 49 23 (by kernel_rfl) (by rw [hsz]; rfl)).trans (dep_at hd 1 23 (is (.bool true)) (by kernel_rfl) (by kernel_rfl))
            clear hF hd
            simp only [comes]
            go_simp
            first | exact ⟨Ext.refl _, rfl⟩ | exact Ext.refl _
        with_reducible refine xOps_cons ?_ ?_
        · with_reducible refine xop_un ?_ ?_
          · rfl
          · intro vs x F hF hd
            have e1 : F.tmps.getD 50 undef = .bool true := (hF.v 50 24 (by kernel_rfl) (by rw [hsz]; rfl)).trans (dep_at hd 0 24 (is (.bool true)) (by kernel_rfl) (by kernel_rfl))
            exact m_v e1
        with_reducible refine xOps_cons ?_ ?_
        · with_reducible refine xop_on 25 51 25 1 ?_ ?_ ?_ ?_ ?_ ?_ ?_
          · rfl
          · kernel_rfl
          · kernel_rfl
          · rw [hsz]; rfl
          · kernel_rfl
          · kernel_rfl
          · intro vs x F hF hd
            clear hF hd
            simp only [comes]
            go_simp
            refine (awake_any _ (HG.out.ext (show Ext Y (Y.plus x) from (by repeat (first | exact Ext.refl _ | assumption | apply Ext.plus_ | apply Ext.alloc | apply Ext.drew)))) (Nat.le_trans h2 (show Ext Y (Y.plus x) from (by repeat (first | exact Ext.refl _ | assumption | apply Ext.plus_ | apply Ext.alloc | apply Ext.drew))).size)).mono ?_
            rintro e w' ⟨rfl, hE⟩
            first | exact ⟨_, rfl, hE, rfl⟩ | exact ⟨_, rfl, hE⟩ | exact ⟨rfl, hE⟩ | exact ⟨_, hE⟩ | exact hE
        with_reducible refine xOps_cons ?_ ?_
        · with_reducible refine xop_un ?_ ?_
          · rfl
          · intro vs x F hF hd
            have e51 : F.tmps.getD 51 undef = .bool true := (hF.v 51 25 (by kernel_rfl) (by rw [hsz]; rfl)).trans (dep_at hd 0 25 (is (.bool true)) (by kernel_rfl) (by kernel_rfl))
            have e52 : F.tmps.getD 52 undef = .bool true := (hF.v 52 26 (by kernel_rfl) (by rw [hsz]; rfl)).trans (dep_at hd 1 26 (is (.bool true)) (by kernel_rfl) (by kernel_rfl))
            clear hF hd
            simp only [comes]
            go_simp
            first | exact ⟨Ext.refl _, rfl⟩ | exact Ext.refl _
        exact xOps_nil
      case hst => exact ⟨is.st _, is.st _, is.st _, (by apply isBS.st), is.st _, is.st _, is.st _, is.st _, is.st _, is.st _, is.st _, is.st _, is.st _, is.st _, is.st _, is.st _, is.st _, is.st _, is.st _, is.st _, is.st _, is.st _, is.st _, is.st _, is.st _, is.st _, is.st _, is.st _, trivial⟩
      case hfin =>
        intro vs x hf
        have f27 : vs 27 = .bool true := hf.2.2.2.2.2.2.2.2.2.2.2.2.2.2.2.2.2.2.2.2.2.2.2.2.2.2.2.1
        clear hf
        have hAq := HAq.out
        subst hAq
        clear hsz hA0 hA8
        simp only [List.take_succ_cons, List.take_zero, List.drop_succ_cons, List.drop_zero, putAll, Act.put, List.setIfInBounds_toArray, List.set_cons_succ, List.set_cons_zero, Nat.zero_add, Nat.reduceAdd]
        clear HAq
        rw [f27]
        clear f27
        go_wp2
        go_ret
        exact ⟨rfl, HE.out.trans (by repeat (first | exact Ext.refl _ | assumption | apply Ext.plus_ | apply Ext.alloc | apply Ext.drew))⟩
    · have hp : (0 : Int) < ((q + 1 : Nat) : Int) := by omega
      go_upto_region 5 with fail
      go_wp2_with (with_reducible show wpList _ _ _ (⟨some 22, _, _, _, _, _⟩ :: _) _ _; refine Lock.out ?_)
      refine ⟨?_, trivial⟩
      refine wl_at fun Y2 hY2 => ?_
      obtain ⟨V, hVe⟩ : ∃ V, V = wr.heap.size := ⟨_, rfl⟩
      have hs2 : SmR w B u0 l Y2 := by
        rw [hY2]
        exact SmR.ext' HL.out.1 (by repeat (first | exact Ext.refl _ | assumption | apply Ext.plus_ | apply Ext.alloc | apply Ext.drew))
      have hb2 : Box 0 [.int .u8 c] V Y2 := by
        rw [hY2, hVe]
        repeat' (first | with_reducible assumption | ((with_reducible refine Box.fresh ?fb ?fn ?fr); (case fb => first | omega | (simp <;> omega)); (case fn => first | omega | (simp <;> omega)); (case fr => rfl)) | with_reducible apply Box.up | with_reducible apply Box.drew_ | with_reducible apply Box.drewN_ | with_reducible apply Box.plus_ | with_reducible apply Box.put | with_reducible refine Box.off ?_ (by omega))
        all_goals first | rfl | (simp; done)
      rw [← hVe]
      clear hY2 hVe
      refine wpList_app _ rfl (.tmp 19) (.tmp 21) 22 rfl _ _ rfl rfl (app_own _ B 22 _ 5 i0 (.int .u8 0) 1 Tryd.underlying22 hi hz0 hz1 hz2 rfl _ _ _ hs2.own _ _ _ _ (bytes [c]) (Row.ofBox hb2) (bytes_one _) (by have := HL.out.2.2; have h6 : (bytes [c]).length = 1 := rfl; unfold maxLen; omega) (by have := HL.out.2.2; have h6 : (bytes [c]).length = 1 := rfl; omega) hs2.size) ?_
      rintro v' W2 ha
      have HS2 := Lib.hid (And.intro (hs2.apped (nw' := [c]) rfl ha hwB) (And.intro (HL.out.2.1.append (By.one HS.out.2.2)) HL.out.2.2))
      clear hs2 hb2 ha HL
      go_wp2
      go_roundw
      case rel => exact ⟨q, l ++ [c], by go_num, by omega, Lib.hid ⟨HS2.out.1, HS2.out.2.1, by have := HS2.out.2.2; rw [List.length_append, List.length_singleton]; omega⟩⟩
      case measure => simp [intOf]
end Go.Proofs.YtbdahlfakinagaaDoor
