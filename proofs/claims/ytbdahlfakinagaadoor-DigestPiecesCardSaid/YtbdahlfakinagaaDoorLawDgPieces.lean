/- DigestPieces: the walk. -/
import Derived.Test.YtbdahlfakinagaaDoorDgK0
set_option linter.unusedVariables false
namespace Go.Proofs.YtbdahlfakinagaaDoor
open Go.RowKit Go.Rg

def Sep (v u : Value) : Prop := ∀ g, v.ownBlock = some g → u.ownBlock ≠ some g
theorem own_lt2 {w : World} {base n size g : Nat} {e : TypeId} {v : Value} {xs : List Value} (h : w.ownsRow base e size v n xs) (hg : v.ownBlock = some g) : g < w.heap.size := by
  rcases h.2 with ⟨h1, _⟩ | ⟨g', cap, cur, hv, hb, hc, _⟩
  · rw [h1] at hg; cases hg
  · rw [hv] at hg
    injection hg with hg
    subst hg
    rcases Nat.lt_or_ge g' w.heap.size with h | h
    · exact h
    · rw [Array.getElem?_eq_none h] at hc; cases hc
theorem own_from {w : World} {base n size g : Nat} {e : TypeId} {v : Value} {xs : List Value} (h : w.ownsRow base e size v n xs) (hg : v.ownBlock = some g) : base ≤ g := by
  rcases h.2 with ⟨h1, _⟩ | ⟨g', cap, cur, hv, hb, hc, _⟩
  · rw [h1] at hg; cases hg
  · rw [hv] at hg
    injection hg with hg
    subst hg
    exact hb
theorem own_grown {w w' : World} {base n size : Nat} {e : TypeId} {u v : Value} {xs : List Value} (h : w.ownsRow base e size u n xs) (hg : w.grownBy w' v.ownBlock) (ho : Sep u v) : w'.ownsRow base e size u n xs := by
  refine ⟨h.1, ?_⟩
  rcases h.2 with h1 | ⟨g, cap, cur, hv, hb, hc, h2⟩
  · exact .inl h1
  · have hl : g < w.heap.size := own_lt2 h (by rw [hv]; rfl)
    refine .inr ⟨g, cap, cur, hv, hb, ?_, h2⟩
    rw [hg.block g hl (fun e => ho g (by rw [hv]; rfl) e.symm)]
    exact hc
theorem Sep.app {w : World} {base n size : Nat} {e : TypeId} {u v v' : Value} {xs : List Value} (h : Sep u v) (hu : w.ownsRow base e size u n xs) (ha : v'.ownBlock = v.ownBlock ∨ v'.ownBlock = some w.heap.size) : Sep u v' := fun g hg => by
  have := own_lt2 hu hg
  rcases ha with ha | ha
  · rw [ha]; exact h g hg
  · rw [ha]; intro q; injection q with q; omega
/-- What lies in memory in the loop: the digest behind the bytes a, and these bytes in a row of the call's own, apart from the digest's. -/
structure PcR (w : World) (B : Nat) (A : Option Addr) (c : Nat) (v : Value) (a : List Int) (wr : World) : Prop where
  dg : OfR w B A c a wr
  all : wr.ownsRow (B + 1) 5 1 v a.length (bytes a)
  sep : Sep (.slice A (tlOf a).length c) v
theorem PcR.ext' {w : World} {B : Nat} {A : Option Addr} {c : Nat} {v : Value} {a : List Int} {wr w2 : World} (h : PcR w B A c v a wr) (e : Ext wr w2) : PcR w B A c v a w2 := ⟨h.dg.ext' e, own_ext h.all e, h.sep⟩
theorem bytes_len (l : List Int) : (bytes l).length = l.length := by rw [bytes, List.length_map]
set_option maxRecDepth 100000 in
set_option maxHeartbeats 8000000 in
theorem digestPieces_any (A0 : Option Addr) (n0 c0 : Nat) (V : Nat → Value) (w : World) (hg : Glob w) (hg2 : 2 ≤ w.heap.size) (hr : Row w w.heap.size 1 A0 n0 ((List.range n0).map V)) (hn : n0 ≤ c0) (hc : c0 ≤ 9223372036854775807) (hv : ∀ i, i < n0 → ∃ l : List Int, BS w (V i) l ∧ By l) :
    Calls Tryd.prog 4 #[.slice A0 n0 c0] w fun e w' => e = .returned (.bool true) ∧ Ext w w' := by
  obtain ⟨i0, hi, hz0, hz1, hz2⟩ := info_parts Tryd.infoByte
  have HG0 := Lib.hid (And.intro hg hg2)
  have HP := Lib.hid (And.intro hr hv)
  have hn63 : n0 ≤ 9223372036854775807 := Nat.le_trans hn hc
  clear hg hg2 hr hv
  go_enter Tryd.func4, Tryd.ntmps4
  go_wp2_with fail
  refine (start_any _ HG0.out.1).mono ?_
  rintro e Y ⟨rfl, hE⟩
  have HE := Lib.hid hE
  clear hE
  go_wp2_with (with_reducible show wpList _ _ _ (⟨none, _, _, _, _, _⟩ :: _) _ _; refine Lock.out ?_)
  refine ⟨?_, trivial⟩
  refine wl_at fun Z hZ => ?_
  obtain ⟨B, hBe⟩ : ∃ B, B = Y.heap.size := ⟨_, rfl⟩
  have hB0 : Box 0 zeroD B Z := by
    rw [hZ, hBe]
    repeat' (first | with_reducible assumption | ((with_reducible refine Box.fresh ?fb ?fn ?fr); (case fb => first | omega | (simp <;> omega)); (case fn => first | omega | (simp <;> omega)); (case fr => rfl)) | with_reducible apply Box.up | with_reducible apply Box.drew_ | with_reducible apply Box.drewN_ | with_reducible apply Box.plus_ | with_reducible apply Box.put | with_reducible refine Box.off ?_ (by omega))
    all_goals first | rfl | (simp; done)
  have hE1 : Ext Y Z := by
    rw [hZ]
    repeat' (first | with_reducible assumption | with_reducible exact Ext.refl _ | with_reducible apply Ext.alloc | with_reducible apply Ext.drew | with_reducible apply Ext.drewN | with_reducible apply Ext.plus_ | with_reducible refine Ext.put ?_ (by omega))
  have hBl : Y.heap.size ≤ B := by omega
  rw [← hBe]
  clear hZ hBe
  refine wl_storeO rfl 34 (.tmp 3) (.tmp 7) rfl hB0 (dcs IL 0 none 0 0) rfl rfl rfl (by kernel_rfl) rfl fun W hW hx ho => ?_
  have hwB : w.heap.size ≤ B := Nat.le_trans HE.out.size hBl
  have HS0 : Hid (PcR w B none 0 (.slice none 0 0) [] W ∧ By [] ∧ ([] : List Int).length ≤ 150 * 0) := Lib.hid (by
    refine ⟨⟨⟨by rw [dcs_nil]; exact hW, by rw [tl_nil]; exact ⟨rfl, .inl ⟨rfl, rfl⟩⟩, hx.ext _ (HE.out.trans hE1) hwB, by rw [hx.size]; exact hB0.lt⟩, ⟨rfl, .inl ⟨rfl, rfl⟩⟩, fun g hg => by cases hg⟩, by_nil, by decide⟩)
  clear hB0 hE1 hBl hW hx ho HE Z
  go_wp2
  go_loopw [4, 5, 6] (fun v4 v5 _ wr => ∃ (i : Nat) (A1 : Option Addr) (c1 : Nat) (l : List Int), i ≤ n0 ∧ i ≤ 20 ∧ v5 = nw i ∧ Hid (PcR w B A1 c1 v4 l wr ∧ By l ∧ l.length ≤ 150 * i)) (fun _ v5 _ _ => 20 - (intOf v5).toNat)
  case atStart => exact ⟨0, none, 0, [], Nat.zero_le _, Nat.zero_le _, rfl, HS0⟩
  case round =>
    clear HS0
    obtain ⟨i, A1, c1, l, hin, hi20, rfl, HS⟩ := hrel
    by_cases hlt : i < n0
    · by_cases hl2 : i < 20
      · obtain ⟨q, hbs, hby⟩ := HP.out.2 i hlt
        obtain ⟨u, hu⟩ : ∃ u, u = V i := ⟨_, rfl⟩
        rw [← hu] at hbs
        have huk : ((List.range n0).map V)[i]? = some u := by
          rw [hu]
          simp [hlt]
        obtain ⟨b, o, rfl, hbb, hcell⟩ := (HP.out.1.lift HS.out.1.dg.ext).at_ huk
        clear hu huk
        obtain ⟨A', n', c', rfl, hbr, hnc, hc63, hA'⟩ := hbs
        have hsh := short_any A' n' c' 150 wr hnc hc63 (by decide)
        have hb2 := BS.short (show BS w (.slice A' n' c') q from ⟨A', n', c', rfl, hbr, hnc, hc63, hA'⟩) 150
        obtain ⟨p, hp⟩ : ∃ p, p = min n' 150 := ⟨_, rfl⟩
        obtain ⟨s, hs⟩ : ∃ s, s = q.take 150 := ⟨_, rfl⟩
        rw [← hp] at hsh hb2
        rw [← hs] at hb2
        have HB := Lib.hid (And.intro hb2 (And.intro (show By s by rw [hs]; exact hby.take _) (show s.length ≤ 150 by rw [hs, List.length_take]; omega)))
        have HSh := Lib.hid hsh
        have hki : (i : Int) < (n0 : Int) := by omega
        have hk2 : (i : Int) < 20 := by omega
        clear hbr hnc hc63 hA' hsh hb2 hp hs hby hbb
        go_wp2_with fail
        refine HSh.out.mono ?_
        rintro e w' ⟨rfl, rfl⟩
        clear HSh hcell
        go_wp2_with (with_reducible show wpList _ _ _ (⟨some 23, _, _, _, _, _⟩ :: _) _ _; refine Lock.out ?_)
        refine ⟨?_, trivial⟩
        refine wl_at fun Y hY => ?_
        rw [← hY] at HS
        clear hY
        refine wl_load rfl 34 (.tmp 3) rfl HS.out.1.dg.box rfl Tryd.underlying34 rfl (by rw [dcs_len]; kernel_rfl) ?_
        have HW := Lib.hid (write_dg (B + 1) _ l A' p c' s Y (HG0.out.1.ext HS.out.1.dg.ext) (Nat.le_trans HG0.out.2 HS.out.1.dg.ext.size) HS.out.1.dg.dg (HB.out.1.lift HS.out.1.dg.ext) HS.out.2.1 HB.out.2.1 (by have h1 := HS.out.2.2; have h3 := HB.out.2.2; omega))
        go_wp2_with fail
        refine HW.out.mono ?_
        rintro e Y2 ⟨v, rfl, ⟨A2, c2, rfl, hown⟩, hE⟩
        obtain ⟨cc, hcc⟩ : ∃ cc, cc = l ++ s := ⟨_, rfl⟩
        rw [← hcc] at hown ⊢
        have HCC := Lib.hid hcc
        clear hcc
        have hs3 := HS.out.1.ext' hE
        have hYB : B < Y.heap.size := HS.out.1.dg.size
        have hsep : Sep (.slice A2 (tlOf cc).length c2) u4 := fun g h1 h2 => by
          have h3 := own_from hown h1
          have h4 := own_lt2 HS.out.1.all h2
          omega
        go_wp2_with (with_reducible show wpList _ _ _ (⟨none, _, _, _, _, _⟩ :: _) _ _; refine Lock.out ?_)
        refine ⟨?_, trivial⟩
        refine wl_storeO rfl 34 (.tmp 3) (.tmp 25) rfl hs3.dg.box (dcs (stOf cc) cc.length A2 (tlOf cc).length c2) rfl rfl (by rw [dcs_len, dcs_len]) (by rw [dcs_len]; kernel_rfl) (dcs_one _ _ _ _ _) fun W hW hx ho => ?_
        have HO : Hid (OfR w B A2 c2 cc W ∧ W.ownsRow (B + 1) 5 1 u4 l.length (bytes l)) := Lib.hid ⟨⟨hW, ho (Nat.lt_succ_self B) (own_lower hown hYB), hx.ext _ hs3.dg.ext hwB, by rw [hx.size]; exact hs3.dg.size⟩, ho (Nat.lt_succ_self B) hs3.all⟩
        have HX := Lib.hid (And.intro hsep (And.intro HS.out.2 HCC.out))
        clear hs3 hown hE hW hx ho hYB HW HS hsep HCC
        go_wp2_with (with_reducible show wpList _ _ _ (⟨some 28, _, _, _, _, _⟩ :: _) _ _; refine Lock.out ?_)
        refine ⟨?_, trivial⟩
        refine wl_at fun Y3 hY3 => ?_
        have hO3 := HO.out
        rw [← hY3] at hO3
        clear hY3 HO
        refine wpList_app _ rfl (.tmp 26) (.tmp 27) 22 rfl _ _ rfl rfl (app_own _ (B + 1) 22 _ 5 i0 (.int .u8 0) 1 Tryd.underlying22 hi hz0 hz1 hz2 rfl _ _ _ hO3.2 _ _ _ _ (bytes s) (HB.out.1.lift hO3.1.ext).at_.1 (bytes_one _) (by have h1 := HX.out.2.1.2; have h3 := HB.out.2.2; have h5 := (HB.out.1.lift hO3.1.ext).at_.2.2.2.2; unfold maxLen; omega) (by have h1 := HX.out.2.1.2; have h3 := HB.out.2.2; have h5 := (HB.out.1.lift hO3.1.ext).at_.2.2.2.2; omega) hO3.1.size) ?_
        rintro v' W2 ha
        have hp5 : p = s.length := (HB.out.1.lift hO3.1.ext).at_.2.2.2.2.symm
        have HS2 : Hid (PcR w B A2 c2 v' cc W2 ∧ By cc ∧ cc.length ≤ 150 * (i + 1)) := Lib.hid (by
          obtain ⟨ha1, ha2, ha3⟩ := ha
          have hne : u4.ownBlock ≠ some B := own_ne hO3.2 (Nat.lt_succ_self B)
          refine ⟨⟨⟨hO3.1.box.grown ha2 hne, own_grown hO3.1.own ha2 HX.out.1, Ext.grown hO3.1.ext hO3.2 (Nat.le_trans hwB (Nat.le_succ B)) ha2, Nat.le_trans hO3.1.size ha2.size⟩, ?_, Sep.app HX.out.1 hO3.1.own ha3⟩, ?_, ?_⟩
          · rw [HX.out.2.2, List.length_append, ← hp5, bytes, List.map_append]
            exact ha1
          · rw [HX.out.2.2]
            exact HX.out.2.1.1.append HB.out.2.1
          · have h1 := HX.out.2.1.2
            have h3 := HB.out.2.2
            rw [HX.out.2.2, List.length_append]
            omega)
        clear hO3 ha hp5 HX HB
        go_wp2
        go_roundw
        case rel => exact ⟨i + 1, A2, c2, cc, by omega, by omega, by go_num, HS2⟩
        case measure => simp [intOf]; omega
      · have hki : (i : Int) < (n0 : Int) := by omega
        have hk2 : ¬ (i : Int) < 20 := by omega
        have HL := Lib.hid (And.intro HS.out.2.1 (show l.length ≤ 3000 by have := HS.out.2.2; omega))
        obtain ⟨cs, hcs⟩ : ∃ cs, cs = dcs (stOf l) l.length A1 (tlOf l).length c1 := ⟨_, rfl⟩
        have hD : DBox B cs l wr := by
          rw [hcs]
          exact ⟨HS.out.1.dg.box, dcs_len _ _ _ _ _, HS.out.1.dg.dg.lower (Nat.zero_le _)⟩
        obtain ⟨Az, cz, hv0, _, _⟩ := own_form HS.out.1.all
        obtain ⟨nz, hn0⟩ : ∃ n, n = l.length := ⟨_, rfl⟩
        have hb4 := BS.of_own HS.out.1.all
        rw [← hn0] at hv0
        rw [hv0] at hb4 ⊢
        have hE := HS.out.1.dg.ext
        have HZ := Lib.hid (And.intro hD (And.intro hb4 hE))
        clear hcs hD hv0 hn0 hb4 hE HS hki HP
        go_upto_region 9 with fail
        refine wp_at fun Y hY => ?_
        rw [← hY] at HZ
        have HD := Lib.hid HZ.out.1
        have K4 := Lib.hid HZ.out.2.1
        have HE := Lib.hid HZ.out.2.2
        have HG := Lib.hid (HG0.out.1.ext HE.out)
        have h2 := Nat.le_trans HG0.out.2 HE.out.size
        clear hY HZ HG0
        refine act_at fun A0 hAq => ?_
        have hsz : A0.tmps.size = 49 := by
          rw [hAq]
          rfl
        have hA3 : A0.tmps.getD 3 undef = .pointer (some ⟨B, 0, none⟩) := by
          rw [hAq]
          first | rfl | kernel_rfl
        have hA4 : A0.tmps.getD 4 undef = .slice Az nz cz := by
          rw [hAq]
          first | rfl | kernel_rfl
        have HAq := Lib.hid hAq
        clear hAq
        apply wp_region_ext 20 [is (.agg cs.toArray), isBS (shaOf l), is (.string (strOfNums (shaOf l))), is (.slice Az nz cz), isBS (shaOf l), is (.string (strOfNums (shaOf l))), is (.bool true), is (.bool true), is (.slice Az nz cz), isOne l, isBS (shaOf l), is (.string (strOfNums (shaOf l))), is (.agg cs.toArray), isBS (shaOf l), is (.string (strOfNums (shaOf l))), is (.bool true), is (.bool true), is (.bool true), is (.bool true), is (.bool true)] (by kernel_rfl) (by kernel_rfl) rfl
        case hops =>
          simp only [List.take_succ_cons, List.take_zero]
          with_reducible refine xOps_cons ?_ ?_
          · with_reducible refine xop_un ?_ ?_
            · rfl
            · intro vs x F hF hd
              have e1 : F.tmps.getD 3 undef = .pointer (some ⟨B, 0, none⟩) := (hF.a 3 (by kernel_rfl) (by rw [hsz]; rfl)).trans hA3
              exact comes_load_box 34 (.tmp 3) rfl (HD.out.1.ext (by repeat (first | exact Ext.refl _ | assumption | apply Ext.plus_ | apply Ext.alloc | apply Ext.drew))) e1 Tryd.underlying34 rfl (by rw [HD.out.2.1]; kernel_rfl)
          with_reducible refine xOps_cons ?_ ?_
          · with_reducible refine xop_un ?_ ?_
            · rfl
            · intro vs x F hF hd
              have e1 : F.tmps.getD 29 undef = .agg cs.toArray := (hF.v 29 0 (by kernel_rfl) (by rw [hsz]; rfl)).trans (dep_at hd 0 0 (is (.agg cs.toArray)) (by kernel_rfl) (by kernel_rfl))
              have he1 := IsDg.ext HD.out.2.2 (show Ext Y (Y.plus x) from (by repeat (first | exact Ext.refl _ | assumption | apply Ext.plus_ | apply Ext.alloc | apply Ext.drew)))
              clear hF hd
              simp only [comes]
              go_simp
              refine (sum_bs _ l _ (HG.out.ext (show Ext Y (Y.plus x) from (by repeat (first | exact Ext.refl _ | assumption | apply Ext.plus_ | apply Ext.alloc | apply Ext.drew)))) (Nat.le_trans h2 (show Ext Y (Y.plus x) from (by repeat (first | exact Ext.refl _ | assumption | apply Ext.plus_ | apply Ext.alloc | apply Ext.drew))).size) he1 HL.out.1 (Nat.le_trans HL.out.2 (by decide))).mono ?_
              rintro e w' ⟨u, rfl, hb, hE⟩
              exact ⟨_, rfl, hE, hb⟩
          with_reducible refine xOps_cons ?_ ?_
          · with_reducible refine xop_un ?_ ?_
            · rfl
            · intro vs x F hF hd
              have e1 : F.tmps.getD 30 undef = vs 1 := hF.v 30 1 (by kernel_rfl) (by rw [hsz]; rfl)
              have pe1 : isBS (shaOf l) (vs 1) (Y.plus x) := dep_at hd 0 1 (isBS (shaOf l)) (by kernel_rfl) (by kernel_rfl)
              have he1 := pe1
              exact comes_str (.tmp 30) rfl _ e1 (shaOf l) he1 ⟨Ext.refl _, rfl⟩
          with_reducible refine xOps_cons ?_ ?_
          · with_reducible refine xop_un ?_ ?_
            · rfl
            · intro vs x F hF hd
              have e1 : F.tmps.getD 4 undef = .slice Az nz cz := (hF.a 4 (by kernel_rfl) (by rw [hsz]; rfl)).trans hA4
              exact m_v e1
          with_reducible refine xOps_cons ?_ ?_
          · with_reducible refine xop_un ?_ ?_
            · rfl
            · intro vs x F hF hd
              have e1 : F.tmps.getD 32 undef = .slice Az nz cz := (hF.v 32 3 (by kernel_rfl) (by rw [hsz]; rfl)).trans (dep_at hd 0 3 (is (.slice Az nz cz)) (by kernel_rfl) (by kernel_rfl))
              have he1 := BS.lift K4.out (show Ext Y (Y.plus x) from (by repeat (first | exact Ext.refl _ | assumption | apply Ext.plus_ | apply Ext.alloc | apply Ext.drew)))
              clear hF hd
              simp only [comes]
              go_simp
              refine (refOf_bs _ l _ he1 HL.out.1 (Nat.le_trans HL.out.2 (by decide))).mono ?_
              rintro e w' ⟨u, rfl, hb, hE⟩
              exact ⟨_, rfl, hE, hb⟩
          with_reducible refine xOps_cons ?_ ?_
          · with_reducible refine xop_un ?_ ?_
            · rfl
            · intro vs x F hF hd
              have e1 : F.tmps.getD 33 undef = vs 4 := hF.v 33 4 (by kernel_rfl) (by rw [hsz]; rfl)
              have pe1 : isBS (shaOf l) (vs 4) (Y.plus x) := dep_at hd 0 4 (isBS (shaOf l)) (by kernel_rfl) (by kernel_rfl)
              have he1 := pe1
              exact comes_str (.tmp 33) rfl _ e1 (shaOf l) he1 ⟨Ext.refl _, rfl⟩
          with_reducible refine xOps_cons ?_ ?_
          · with_reducible refine xop_un ?_ ?_
            · rfl
            · intro vs x F hF hd
              have e0 : F.tmps.getD 31 undef = .string (strOfNums (shaOf l)) := (hF.v 31 2 (by kernel_rfl) (by rw [hsz]; rfl)).trans (dep_at hd 0 2 (is (.string (strOfNums (shaOf l)))) (by kernel_rfl) (by kernel_rfl))
              have e1 : F.tmps.getD 34 undef = .string (strOfNums (shaOf l)) := (hF.v 34 5 (by kernel_rfl) (by rw [hsz]; rfl)).trans (dep_at hd 1 5 (is (.string (strOfNums (shaOf l)))) (by kernel_rfl) (by kernel_rfl))
              exact s_eqs e0 e1
          with_reducible refine xOps_cons ?_ ?_
          · with_reducible refine xop_un ?_ ?_
            · rfl
            · intro vs x F hF hd
              have e1 : F.tmps.getD 35 undef = .bool true := (hF.v 35 6 (by kernel_rfl) (by rw [hsz]; rfl)).trans (dep_at hd 0 6 (is (.bool true)) (by kernel_rfl) (by kernel_rfl))
              exact m_v e1
          with_reducible refine xOps_cons ?_ ?_
          · with_reducible refine xop_on 7 36 7 0 ?_ ?_ ?_ ?_ ?_ ?_ ?_
            · rfl
            · kernel_rfl
            · kernel_rfl
            · rw [hsz]; rfl
            · kernel_rfl
            · kernel_rfl
            · intro vs x F hF hd
              have e1 : F.tmps.getD 4 undef = .slice Az nz cz := (hF.a 4 (by kernel_rfl) (by rw [hsz]; rfl)).trans hA4
              exact m_v e1
          with_reducible refine xOps_cons ?_ ?_
          · with_reducible refine xop_on 7 36 7 1 ?_ ?_ ?_ ?_ ?_ ?_ ?_
            · rfl
            · kernel_rfl
            · kernel_rfl
            · rw [hsz]; rfl
            · kernel_rfl
            · kernel_rfl
            · intro vs x F hF hd
              have e37 : F.tmps.getD 37 undef = .slice Az nz cz := (hF.v 37 8 (by kernel_rfl) (by rw [hsz]; rfl)).trans (dep_at hd 0 8 (is (.slice Az nz cz)) (by kernel_rfl) (by kernel_rfl))
              rw [Array.getD_eq_getD_getElem?] at e37
              clear hF hd
              simp only [comes]
              go_simp
              exact ⟨(Ext.refl _).alloc _, _, _, rfl, Cells.new _ _ _ _ rfl, BS.lift K4.out (by repeat (first | exact Ext.refl _ | assumption | apply Ext.plus_ | apply Ext.alloc | apply Ext.drew))⟩
          with_reducible refine xOps_cons ?_ ?_
          · with_reducible refine xop_on 7 36 7 2 ?_ ?_ ?_ ?_ ?_ ?_ ?_
            · rfl
            · kernel_rfl
            · kernel_rfl
            · rw [hsz]; rfl
            · kernel_rfl
            · kernel_rfl
            · intro vs x F hF hd
              have e1 : F.tmps.getD 38 undef = vs 9 := hF.v 38 9 (by kernel_rfl) (by rw [hsz]; rfl)
              have pe1 : isOne l (vs 9) (Y.plus x) := dep_at hd 0 9 (isOne l) (by kernel_rfl) (by kernel_rfl)
              obtain ⟨b9, u9, hv9, hc9, hb9⟩ := pe1
              rw [hv9] at e1
              clear hF hd
              simp only [comes]
              go_simp
              refine (of_one _ (HG.out.ext (show Ext Y (Y.plus x) from (by repeat (first | exact Ext.refl _ | assumption | apply Ext.plus_ | apply Ext.alloc | apply Ext.drew)))) (Nat.le_trans h2 (show Ext Y (Y.plus x) from (by repeat (first | exact Ext.refl _ | assumption | apply Ext.plus_ | apply Ext.alloc | apply Ext.drew))).size) b9 u9 l hc9 hb9 HL.out.1 (Nat.le_trans HL.out.2 (by decide))).mono ?_
              rintro e w' ⟨u, rfl, hb, hE⟩
              exact ⟨_, rfl, hE, hb⟩
          with_reducible refine xOps_cons ?_ ?_
          · with_reducible refine xop_on 7 36 7 1 ?_ ?_ ?_ ?_ ?_ ?_ ?_
            · rfl
            · kernel_rfl
            · kernel_rfl
            · rw [hsz]; rfl
            · kernel_rfl
            · kernel_rfl
            · intro vs x F hF hd
              have e1 : F.tmps.getD 39 undef = vs 10 := hF.v 39 10 (by kernel_rfl) (by rw [hsz]; rfl)
              have pe1 : isBS (shaOf l) (vs 10) (Y.plus x) := dep_at hd 0 10 (isBS (shaOf l)) (by kernel_rfl) (by kernel_rfl)
              have he1 := pe1
              exact comes_str (.tmp 39) rfl _ e1 (shaOf l) he1 ⟨Ext.refl _, rfl⟩
          with_reducible refine xOps_cons ?_ ?_
          · with_reducible refine xop_on 7 36 7 0 ?_ ?_ ?_ ?_ ?_ ?_ ?_
            · rfl
            · kernel_rfl
            · kernel_rfl
            · rw [hsz]; rfl
            · kernel_rfl
            · kernel_rfl
            · intro vs x F hF hd
              have e1 : F.tmps.getD 3 undef = .pointer (some ⟨B, 0, none⟩) := (hF.a 3 (by kernel_rfl) (by rw [hsz]; rfl)).trans hA3
              exact comes_load_box 34 (.tmp 3) rfl (HD.out.1.ext (by repeat (first | exact Ext.refl _ | assumption | apply Ext.plus_ | apply Ext.alloc | apply Ext.drew))) e1 Tryd.underlying34 rfl (by rw [HD.out.2.1]; kernel_rfl)
          with_reducible refine xOps_cons ?_ ?_
          · with_reducible refine xop_on 7 36 7 2 ?_ ?_ ?_ ?_ ?_ ?_ ?_
            · rfl
            · kernel_rfl
            · kernel_rfl
            · rw [hsz]; rfl
            · kernel_rfl
            · kernel_rfl
            · intro vs x F hF hd
              have e1 : F.tmps.getD 41 undef = .agg cs.toArray := (hF.v 41 12 (by kernel_rfl) (by rw [hsz]; rfl)).trans (dep_at hd 0 12 (is (.agg cs.toArray)) (by kernel_rfl) (by kernel_rfl))
              have he1 := IsDg.ext HD.out.2.2 (show Ext Y (Y.plus x) from (by repeat (first | exact Ext.refl _ | assumption | apply Ext.plus_ | apply Ext.alloc | apply Ext.drew)))
              clear hF hd
              simp only [comes]
              go_simp
              refine (sum_bs _ l _ (HG.out.ext (show Ext Y (Y.plus x) from (by repeat (first | exact Ext.refl _ | assumption | apply Ext.plus_ | apply Ext.alloc | apply Ext.drew)))) (Nat.le_trans h2 (show Ext Y (Y.plus x) from (by repeat (first | exact Ext.refl _ | assumption | apply Ext.plus_ | apply Ext.alloc | apply Ext.drew))).size) he1 HL.out.1 (Nat.le_trans HL.out.2 (by decide))).mono ?_
              rintro e w' ⟨u, rfl, hb, hE⟩
              exact ⟨_, rfl, hE, hb⟩
          with_reducible refine xOps_cons ?_ ?_
          · with_reducible refine xop_on 7 36 7 1 ?_ ?_ ?_ ?_ ?_ ?_ ?_
            · rfl
            · kernel_rfl
            · kernel_rfl
            · rw [hsz]; rfl
            · kernel_rfl
            · kernel_rfl
            · intro vs x F hF hd
              have e1 : F.tmps.getD 42 undef = vs 13 := hF.v 42 13 (by kernel_rfl) (by rw [hsz]; rfl)
              have pe1 : isBS (shaOf l) (vs 13) (Y.plus x) := dep_at hd 0 13 (isBS (shaOf l)) (by kernel_rfl) (by kernel_rfl)
              have he1 := pe1
              exact comes_str (.tmp 42) rfl _ e1 (shaOf l) he1 ⟨Ext.refl _, rfl⟩
          with_reducible refine xOps_cons ?_ ?_
          · with_reducible refine xop_on 7 36 7 2 ?_ ?_ ?_ ?_ ?_ ?_ ?_
            · rfl
            · kernel_rfl
            · kernel_rfl
            · rw [hsz]; rfl
            · kernel_rfl
            · kernel_rfl
            · intro vs x F hF hd
              have e0 : F.tmps.getD 40 undef = .string (strOfNums (shaOf l)) := (hF.v 40 11 (by kernel_rfl) (by rw [hsz]; rfl)).trans (dep_at hd 0 11 (is (.string (strOfNums (shaOf l)))) (by kernel_rfl) (by kernel_rfl))
              have e1 : F.tmps.getD 43 undef = .string (strOfNums (shaOf l)) := (hF.v 43 14 (by kernel_rfl) (by rw [hsz]; rfl)).trans (dep_at hd 1 14 (is (.string (strOfNums (shaOf l)))) (by kernel_rfl) (by kernel_rfl))
              exact s_eqs e0 e1
          with_reducible refine xOps_cons ?_ ?_
          · with_reducible refine xop_un ?_ ?_
            · rfl
            · intro vs x F hF hd
              have e36 : F.tmps.getD 36 undef = .bool true := (hF.v 36 7 (by kernel_rfl) (by rw [hsz]; rfl)).trans (dep_at hd 0 7 (is (.bool true)) (by kernel_rfl) (by kernel_rfl))
              have e44 : F.tmps.getD 44 undef = .bool true := (hF.v 44 15 (by kernel_rfl) (by rw [hsz]; rfl)).trans (dep_at hd 1 15 (is (.bool true)) (by kernel_rfl) (by kernel_rfl))
              clear hF hd
              simp only [comes]
              go_simp
              first | exact ⟨Ext.refl _, rfl⟩ | exact Ext.refl _
          with_reducible refine xOps_cons ?_ ?_
          · with_reducible refine xop_un ?_ ?_
            · rfl
            · intro vs x F hF hd
              have e1 : F.tmps.getD 45 undef = .bool true := (hF.v 45 16 (by kernel_rfl) (by rw [hsz]; rfl)).trans (dep_at hd 0 16 (is (.bool true)) (by kernel_rfl) (by kernel_rfl))
              exact m_v e1
          with_reducible refine xOps_cons ?_ ?_
          · with_reducible refine xop_on 17 46 17 1 ?_ ?_ ?_ ?_ ?_ ?_ ?_
            · rfl
            · kernel_rfl
            · kernel_rfl
            · rw [hsz]; rfl
            · kernel_rfl
            · kernel_rfl
            · intro vs x F hF hd
              clear hF hd
              simp only [comes]
              go_simp
              refine (awake_any _ (HG.out.ext (show Ext Y (Y.plus x) from (by repeat (first | exact Ext.refl _ | assumption | apply Ext.plus_ | apply Ext.alloc | apply Ext.drew)))) (Nat.le_trans h2 (show Ext Y (Y.plus x) from (by repeat (first | exact Ext.refl _ | assumption | apply Ext.plus_ | apply Ext.alloc | apply Ext.drew))).size)).mono ?_
              rintro e w' ⟨rfl, hE⟩
              first | exact ⟨_, rfl, hE, rfl⟩ | exact ⟨_, rfl, hE⟩ | exact ⟨rfl, hE⟩ | exact ⟨_, hE⟩ | exact hE
          with_reducible refine xOps_cons ?_ ?_
          · with_reducible refine xop_un ?_ ?_
            · rfl
            · intro vs x F hF hd
              have e46 : F.tmps.getD 46 undef = .bool true := (hF.v 46 17 (by kernel_rfl) (by rw [hsz]; rfl)).trans (dep_at hd 0 17 (is (.bool true)) (by kernel_rfl) (by kernel_rfl))
              have e47 : F.tmps.getD 47 undef = .bool true := (hF.v 47 18 (by kernel_rfl) (by rw [hsz]; rfl)).trans (dep_at hd 1 18 (is (.bool true)) (by kernel_rfl) (by kernel_rfl))
              clear hF hd
              simp only [comes]
              go_simp
              first | exact ⟨Ext.refl _, rfl⟩ | exact Ext.refl _
          exact xOps_nil
        case hst => exact ⟨is.st _, (by apply isBS.st), is.st _, is.st _, (by apply isBS.st), is.st _, is.st _, is.st _, is.st _, (by apply isOne.st), (by apply isBS.st), is.st _, is.st _, (by apply isBS.st), is.st _, is.st _, is.st _, is.st _, is.st _, is.st _, trivial⟩
        case hfin =>
          intro vs x hf
          have f19 : vs 19 = .bool true := hf.2.2.2.2.2.2.2.2.2.2.2.2.2.2.2.2.2.2.2.1
          clear hf
          have hAq := HAq.out
          subst hAq
          clear hsz hA3 hA4
          simp only [List.take_succ_cons, List.take_zero, List.drop_succ_cons, List.drop_zero, putAll, Act.put, List.setIfInBounds_toArray, List.set_cons_succ, List.set_cons_zero, Nat.zero_add, Nat.reduceAdd]
          clear HAq
          rw [f19]
          clear f19
          go_wp2
          go_ret
          exact ⟨rfl, HE.out.trans (by repeat (first | exact Ext.refl _ | assumption | apply Ext.plus_ | apply Ext.alloc | apply Ext.drew))⟩
    · have hki : ¬ (i : Int) < (n0 : Int) := by omega
      have HL := Lib.hid (And.intro HS.out.2.1 (show l.length ≤ 3000 by have := HS.out.2.2; omega))
      obtain ⟨cs, hcs⟩ : ∃ cs, cs = dcs (stOf l) l.length A1 (tlOf l).length c1 := ⟨_, rfl⟩
      have hD : DBox B cs l wr := by
        rw [hcs]
        exact ⟨HS.out.1.dg.box, dcs_len _ _ _ _ _, HS.out.1.dg.dg.lower (Nat.zero_le _)⟩
      obtain ⟨Az, cz, hv0, _, _⟩ := own_form HS.out.1.all
      obtain ⟨nz, hn0⟩ : ∃ n, n = l.length := ⟨_, rfl⟩
      have hb4 := BS.of_own HS.out.1.all
      rw [← hn0] at hv0
      rw [hv0] at hb4 ⊢
      have hE := HS.out.1.dg.ext
      have HZ := Lib.hid (And.intro hD (And.intro hb4 hE))
      clear hcs hD hv0 hn0 hb4 hE HS hki HP
      go_upto_region 9 with fail
      refine wp_at fun Y hY => ?_
      rw [← hY] at HZ
      have HD := Lib.hid HZ.out.1
      have K4 := Lib.hid HZ.out.2.1
      have HE := Lib.hid HZ.out.2.2
      have HG := Lib.hid (HG0.out.1.ext HE.out)
      have h2 := Nat.le_trans HG0.out.2 HE.out.size
      clear hY HZ HG0
      refine act_at fun A0 hAq => ?_
      have hsz : A0.tmps.size = 49 := by
        rw [hAq]
        rfl
      have hA3 : A0.tmps.getD 3 undef = .pointer (some ⟨B, 0, none⟩) := by
        rw [hAq]
        first | rfl | kernel_rfl
      have hA4 : A0.tmps.getD 4 undef = .slice Az nz cz := by
        rw [hAq]
        first | rfl | kernel_rfl
      have HAq := Lib.hid hAq
      clear hAq
      apply wp_region_ext 20 [is (.agg cs.toArray), isBS (shaOf l), is (.string (strOfNums (shaOf l))), is (.slice Az nz cz), isBS (shaOf l), is (.string (strOfNums (shaOf l))), is (.bool true), is (.bool true), is (.slice Az nz cz), isOne l, isBS (shaOf l), is (.string (strOfNums (shaOf l))), is (.agg cs.toArray), isBS (shaOf l), is (.string (strOfNums (shaOf l))), is (.bool true), is (.bool true), is (.bool true), is (.bool true), is (.bool true)] (by kernel_rfl) (by kernel_rfl) rfl
      case hops =>
        simp only [List.take_succ_cons, List.take_zero]
        with_reducible refine xOps_cons ?_ ?_
        · with_reducible refine xop_un ?_ ?_
          · rfl
          · intro vs x F hF hd
            have e1 : F.tmps.getD 3 undef = .pointer (some ⟨B, 0, none⟩) := (hF.a 3 (by kernel_rfl) (by rw [hsz]; rfl)).trans hA3
            exact comes_load_box 34 (.tmp 3) rfl (HD.out.1.ext (by repeat (first | exact Ext.refl _ | assumption | apply Ext.plus_ | apply Ext.alloc | apply Ext.drew))) e1 Tryd.underlying34 rfl (by rw [HD.out.2.1]; kernel_rfl)
        with_reducible refine xOps_cons ?_ ?_
        · with_reducible refine xop_un ?_ ?_
          · rfl
          · intro vs x F hF hd
            have e1 : F.tmps.getD 29 undef = .agg cs.toArray := (hF.v 29 0 (by kernel_rfl) (by rw [hsz]; rfl)).trans (dep_at hd 0 0 (is (.agg cs.toArray)) (by kernel_rfl) (by kernel_rfl))
            have he1 := IsDg.ext HD.out.2.2 (show Ext Y (Y.plus x) from (by repeat (first | exact Ext.refl _ | assumption | apply Ext.plus_ | apply Ext.alloc | apply Ext.drew)))
            clear hF hd
            simp only [comes]
            go_simp
            refine (sum_bs _ l _ (HG.out.ext (show Ext Y (Y.plus x) from (by repeat (first | exact Ext.refl _ | assumption | apply Ext.plus_ | apply Ext.alloc | apply Ext.drew)))) (Nat.le_trans h2 (show Ext Y (Y.plus x) from (by repeat (first | exact Ext.refl _ | assumption | apply Ext.plus_ | apply Ext.alloc | apply Ext.drew))).size) he1 HL.out.1 (Nat.le_trans HL.out.2 (by decide))).mono ?_
            rintro e w' ⟨u, rfl, hb, hE⟩
            exact ⟨_, rfl, hE, hb⟩
        with_reducible refine xOps_cons ?_ ?_
        · with_reducible refine xop_un ?_ ?_
          · rfl
          · intro vs x F hF hd
            have e1 : F.tmps.getD 30 undef = vs 1 := hF.v 30 1 (by kernel_rfl) (by rw [hsz]; rfl)
            have pe1 : isBS (shaOf l) (vs 1) (Y.plus x) := dep_at hd 0 1 (isBS (shaOf l)) (by kernel_rfl) (by kernel_rfl)
            have he1 := pe1
            exact comes_str (.tmp 30) rfl _ e1 (shaOf l) he1 ⟨Ext.refl _, rfl⟩
        with_reducible refine xOps_cons ?_ ?_
        · with_reducible refine xop_un ?_ ?_
          · rfl
          · intro vs x F hF hd
            have e1 : F.tmps.getD 4 undef = .slice Az nz cz := (hF.a 4 (by kernel_rfl) (by rw [hsz]; rfl)).trans hA4
            exact m_v e1
        with_reducible refine xOps_cons ?_ ?_
        · with_reducible refine xop_un ?_ ?_
          · rfl
          · intro vs x F hF hd
            have e1 : F.tmps.getD 32 undef = .slice Az nz cz := (hF.v 32 3 (by kernel_rfl) (by rw [hsz]; rfl)).trans (dep_at hd 0 3 (is (.slice Az nz cz)) (by kernel_rfl) (by kernel_rfl))
            have he1 := BS.lift K4.out (show Ext Y (Y.plus x) from (by repeat (first | exact Ext.refl _ | assumption | apply Ext.plus_ | apply Ext.alloc | apply Ext.drew)))
            clear hF hd
            simp only [comes]
            go_simp
            refine (refOf_bs _ l _ he1 HL.out.1 (Nat.le_trans HL.out.2 (by decide))).mono ?_
            rintro e w' ⟨u, rfl, hb, hE⟩
            exact ⟨_, rfl, hE, hb⟩
        with_reducible refine xOps_cons ?_ ?_
        · with_reducible refine xop_un ?_ ?_
          · rfl
          · intro vs x F hF hd
            have e1 : F.tmps.getD 33 undef = vs 4 := hF.v 33 4 (by kernel_rfl) (by rw [hsz]; rfl)
            have pe1 : isBS (shaOf l) (vs 4) (Y.plus x) := dep_at hd 0 4 (isBS (shaOf l)) (by kernel_rfl) (by kernel_rfl)
            have he1 := pe1
            exact comes_str (.tmp 33) rfl _ e1 (shaOf l) he1 ⟨Ext.refl _, rfl⟩
        with_reducible refine xOps_cons ?_ ?_
        · with_reducible refine xop_un ?_ ?_
          · rfl
          · intro vs x F hF hd
            have e0 : F.tmps.getD 31 undef = .string (strOfNums (shaOf l)) := (hF.v 31 2 (by kernel_rfl) (by rw [hsz]; rfl)).trans (dep_at hd 0 2 (is (.string (strOfNums (shaOf l)))) (by kernel_rfl) (by kernel_rfl))
            have e1 : F.tmps.getD 34 undef = .string (strOfNums (shaOf l)) := (hF.v 34 5 (by kernel_rfl) (by rw [hsz]; rfl)).trans (dep_at hd 1 5 (is (.string (strOfNums (shaOf l)))) (by kernel_rfl) (by kernel_rfl))
            exact s_eqs e0 e1
        with_reducible refine xOps_cons ?_ ?_
        · with_reducible refine xop_un ?_ ?_
          · rfl
          · intro vs x F hF hd
            have e1 : F.tmps.getD 35 undef = .bool true := (hF.v 35 6 (by kernel_rfl) (by rw [hsz]; rfl)).trans (dep_at hd 0 6 (is (.bool true)) (by kernel_rfl) (by kernel_rfl))
            exact m_v e1
        with_reducible refine xOps_cons ?_ ?_
        · with_reducible refine xop_on 7 36 7 0 ?_ ?_ ?_ ?_ ?_ ?_ ?_
          · rfl
          · kernel_rfl
          · kernel_rfl
          · rw [hsz]; rfl
          · kernel_rfl
          · kernel_rfl
          · intro vs x F hF hd
            have e1 : F.tmps.getD 4 undef = .slice Az nz cz := (hF.a 4 (by kernel_rfl) (by rw [hsz]; rfl)).trans hA4
            exact m_v e1
        with_reducible refine xOps_cons ?_ ?_
        · with_reducible refine xop_on 7 36 7 1 ?_ ?_ ?_ ?_ ?_ ?_ ?_
          · rfl
          · kernel_rfl
          · kernel_rfl
          · rw [hsz]; rfl
          · kernel_rfl
          · kernel_rfl
          · intro vs x F hF hd
            have e37 : F.tmps.getD 37 undef = .slice Az nz cz := (hF.v 37 8 (by kernel_rfl) (by rw [hsz]; rfl)).trans (dep_at hd 0 8 (is (.slice Az nz cz)) (by kernel_rfl) (by kernel_rfl))
            rw [Array.getD_eq_getD_getElem?] at e37
            clear hF hd
            simp only [comes]
            go_simp
            exact ⟨(Ext.refl _).alloc _, _, _, rfl, Cells.new _ _ _ _ rfl, BS.lift K4.out (by repeat (first | exact Ext.refl _ | assumption | apply Ext.plus_ | apply Ext.alloc | apply Ext.drew))⟩
        with_reducible refine xOps_cons ?_ ?_
        · with_reducible refine xop_on 7 36 7 2 ?_ ?_ ?_ ?_ ?_ ?_ ?_
          · rfl
          · kernel_rfl
          · kernel_rfl
          · rw [hsz]; rfl
          · kernel_rfl
          · kernel_rfl
          · intro vs x F hF hd
            have e1 : F.tmps.getD 38 undef = vs 9 := hF.v 38 9 (by kernel_rfl) (by rw [hsz]; rfl)
            have pe1 : isOne l (vs 9) (Y.plus x) := dep_at hd 0 9 (isOne l) (by kernel_rfl) (by kernel_rfl)
            obtain ⟨b9, u9, hv9, hc9, hb9⟩ := pe1
            rw [hv9] at e1
            clear hF hd
            simp only [comes]
            go_simp
            refine (of_one _ (HG.out.ext (show Ext Y (Y.plus x) from (by repeat (first | exact Ext.refl _ | assumption | apply Ext.plus_ | apply Ext.alloc | apply Ext.drew)))) (Nat.le_trans h2 (show Ext Y (Y.plus x) from (by repeat (first | exact Ext.refl _ | assumption | apply Ext.plus_ | apply Ext.alloc | apply Ext.drew))).size) b9 u9 l hc9 hb9 HL.out.1 (Nat.le_trans HL.out.2 (by decide))).mono ?_
            rintro e w' ⟨u, rfl, hb, hE⟩
            exact ⟨_, rfl, hE, hb⟩
        with_reducible refine xOps_cons ?_ ?_
        · with_reducible refine xop_on 7 36 7 1 ?_ ?_ ?_ ?_ ?_ ?_ ?_
          · rfl
          · kernel_rfl
          · kernel_rfl
          · rw [hsz]; rfl
          · kernel_rfl
          · kernel_rfl
          · intro vs x F hF hd
            have e1 : F.tmps.getD 39 undef = vs 10 := hF.v 39 10 (by kernel_rfl) (by rw [hsz]; rfl)
            have pe1 : isBS (shaOf l) (vs 10) (Y.plus x) := dep_at hd 0 10 (isBS (shaOf l)) (by kernel_rfl) (by kernel_rfl)
            have he1 := pe1
            exact comes_str (.tmp 39) rfl _ e1 (shaOf l) he1 ⟨Ext.refl _, rfl⟩
        with_reducible refine xOps_cons ?_ ?_
        · with_reducible refine xop_on 7 36 7 0 ?_ ?_ ?_ ?_ ?_ ?_ ?_
          · rfl
          · kernel_rfl
          · kernel_rfl
          · rw [hsz]; rfl
          · kernel_rfl
          · kernel_rfl
          · intro vs x F hF hd
            have e1 : F.tmps.getD 3 undef = .pointer (some ⟨B, 0, none⟩) := (hF.a 3 (by kernel_rfl) (by rw [hsz]; rfl)).trans hA3
            exact comes_load_box 34 (.tmp 3) rfl (HD.out.1.ext (by repeat (first | exact Ext.refl _ | assumption | apply Ext.plus_ | apply Ext.alloc | apply Ext.drew))) e1 Tryd.underlying34 rfl (by rw [HD.out.2.1]; kernel_rfl)
        with_reducible refine xOps_cons ?_ ?_
        · with_reducible refine xop_on 7 36 7 2 ?_ ?_ ?_ ?_ ?_ ?_ ?_
          · rfl
          · kernel_rfl
          · kernel_rfl
          · rw [hsz]; rfl
          · kernel_rfl
          · kernel_rfl
          · intro vs x F hF hd
            have e1 : F.tmps.getD 41 undef = .agg cs.toArray := (hF.v 41 12 (by kernel_rfl) (by rw [hsz]; rfl)).trans (dep_at hd 0 12 (is (.agg cs.toArray)) (by kernel_rfl) (by kernel_rfl))
            have he1 := IsDg.ext HD.out.2.2 (show Ext Y (Y.plus x) from (by repeat (first | exact Ext.refl _ | assumption | apply Ext.plus_ | apply Ext.alloc | apply Ext.drew)))
            clear hF hd
            simp only [comes]
            go_simp
            refine (sum_bs _ l _ (HG.out.ext (show Ext Y (Y.plus x) from (by repeat (first | exact Ext.refl _ | assumption | apply Ext.plus_ | apply Ext.alloc | apply Ext.drew)))) (Nat.le_trans h2 (show Ext Y (Y.plus x) from (by repeat (first | exact Ext.refl _ | assumption | apply Ext.plus_ | apply Ext.alloc | apply Ext.drew))).size) he1 HL.out.1 (Nat.le_trans HL.out.2 (by decide))).mono ?_
            rintro e w' ⟨u, rfl, hb, hE⟩
            exact ⟨_, rfl, hE, hb⟩
        with_reducible refine xOps_cons ?_ ?_
        · with_reducible refine xop_on 7 36 7 1 ?_ ?_ ?_ ?_ ?_ ?_ ?_
          · rfl
          · kernel_rfl
          · kernel_rfl
          · rw [hsz]; rfl
          · kernel_rfl
          · kernel_rfl
          · intro vs x F hF hd
            have e1 : F.tmps.getD 42 undef = vs 13 := hF.v 42 13 (by kernel_rfl) (by rw [hsz]; rfl)
            have pe1 : isBS (shaOf l) (vs 13) (Y.plus x) := dep_at hd 0 13 (isBS (shaOf l)) (by kernel_rfl) (by kernel_rfl)
            have he1 := pe1
            exact comes_str (.tmp 42) rfl _ e1 (shaOf l) he1 ⟨Ext.refl _, rfl⟩
        with_reducible refine xOps_cons ?_ ?_
        · with_reducible refine xop_on 7 36 7 2 ?_ ?_ ?_ ?_ ?_ ?_ ?_
          · rfl
          · kernel_rfl
          · kernel_rfl
          · rw [hsz]; rfl
          · kernel_rfl
          · kernel_rfl
          · intro vs x F hF hd
            have e0 : F.tmps.getD 40 undef = .string (strOfNums (shaOf l)) := (hF.v 40 11 (by kernel_rfl) (by rw [hsz]; rfl)).trans (dep_at hd 0 11 (is (.string (strOfNums (shaOf l)))) (by kernel_rfl) (by kernel_rfl))
            have e1 : F.tmps.getD 43 undef = .string (strOfNums (shaOf l)) := (hF.v 43 14 (by kernel_rfl) (by rw [hsz]; rfl)).trans (dep_at hd 1 14 (is (.string (strOfNums (shaOf l)))) (by kernel_rfl) (by kernel_rfl))
            exact s_eqs e0 e1
        with_reducible refine xOps_cons ?_ ?_
        · with_reducible refine xop_un ?_ ?_
          · rfl
          · intro vs x F hF hd
            have e36 : F.tmps.getD 36 undef = .bool true := (hF.v 36 7 (by kernel_rfl) (by rw [hsz]; rfl)).trans (dep_at hd 0 7 (is (.bool true)) (by kernel_rfl) (by kernel_rfl))
            have e44 : F.tmps.getD 44 undef = .bool true := (hF.v 44 15 (by kernel_rfl) (by rw [hsz]; rfl)).trans (dep_at hd 1 15 (is (.bool true)) (by kernel_rfl) (by kernel_rfl))
            clear hF hd
            simp only [comes]
            go_simp
            first | exact ⟨Ext.refl _, rfl⟩ | exact Ext.refl _
        with_reducible refine xOps_cons ?_ ?_
        · with_reducible refine xop_un ?_ ?_
          · rfl
          · intro vs x F hF hd
            have e1 : F.tmps.getD 45 undef = .bool true := (hF.v 45 16 (by kernel_rfl) (by rw [hsz]; rfl)).trans (dep_at hd 0 16 (is (.bool true)) (by kernel_rfl) (by kernel_rfl))
            exact m_v e1
        with_reducible refine xOps_cons ?_ ?_
        · with_reducible refine xop_on 17 46 17 1 ?_ ?_ ?_ ?_ ?_ ?_ ?_
          · rfl
          · kernel_rfl
          · kernel_rfl
          · rw [hsz]; rfl
          · kernel_rfl
          · kernel_rfl
          · intro vs x F hF hd
            clear hF hd
            simp only [comes]
            go_simp
            refine (awake_any _ (HG.out.ext (show Ext Y (Y.plus x) from (by repeat (first | exact Ext.refl _ | assumption | apply Ext.plus_ | apply Ext.alloc | apply Ext.drew)))) (Nat.le_trans h2 (show Ext Y (Y.plus x) from (by repeat (first | exact Ext.refl _ | assumption | apply Ext.plus_ | apply Ext.alloc | apply Ext.drew))).size)).mono ?_
            rintro e w' ⟨rfl, hE⟩
            first | exact ⟨_, rfl, hE, rfl⟩ | exact ⟨_, rfl, hE⟩ | exact ⟨rfl, hE⟩ | exact ⟨_, hE⟩ | exact hE
        with_reducible refine xOps_cons ?_ ?_
        · with_reducible refine xop_un ?_ ?_
          · rfl
          · intro vs x F hF hd
            have e46 : F.tmps.getD 46 undef = .bool true := (hF.v 46 17 (by kernel_rfl) (by rw [hsz]; rfl)).trans (dep_at hd 0 17 (is (.bool true)) (by kernel_rfl) (by kernel_rfl))
            have e47 : F.tmps.getD 47 undef = .bool true := (hF.v 47 18 (by kernel_rfl) (by rw [hsz]; rfl)).trans (dep_at hd 1 18 (is (.bool true)) (by kernel_rfl) (by kernel_rfl))
            clear hF hd
            simp only [comes]
            go_simp
            first | exact ⟨Ext.refl _, rfl⟩ | exact Ext.refl _
        exact xOps_nil
      case hst => exact ⟨is.st _, (by apply isBS.st), is.st _, is.st _, (by apply isBS.st), is.st _, is.st _, is.st _, is.st _, (by apply isOne.st), (by apply isBS.st), is.st _, is.st _, (by apply isBS.st), is.st _, is.st _, is.st _, is.st _, is.st _, is.st _, trivial⟩
      case hfin =>
        intro vs x hf
        have f19 : vs 19 = .bool true := hf.2.2.2.2.2.2.2.2.2.2.2.2.2.2.2.2.2.2.2.1
        clear hf
        have hAq := HAq.out
        subst hAq
        clear hsz hA3 hA4
        simp only [List.take_succ_cons, List.take_zero, List.drop_succ_cons, List.drop_zero, putAll, Act.put, List.setIfInBounds_toArray, List.set_cons_succ, List.set_cons_zero, Nat.zero_add, Nat.reduceAdd]
        clear HAq
        rw [f19]
        clear f19
        go_wp2
        go_ret
        exact ⟨rfl, HE.out.trans (by repeat (first | exact Ext.refl _ | assumption | apply Ext.plus_ | apply Ext.alloc | apply Ext.drew))⟩
end Go.Proofs.YtbdahlfakinagaaDoor
