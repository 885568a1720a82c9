/- The reference of config.Validate. -/
import Derived.Test.YtlcopiepcpangaaCfg2
import Derived.Test.YtlcopiepcpangaaPlanRef
import Derived.Test.YtlcopiepcpangaaSeq2
import Derived.Test.YtlcopiepcpangaaRet
import Derived.Deep.CutRange
set_option linter.unusedVariables false
namespace Go.Proofs.Ytlcopiepcpangaa
open Go.RowKit Go.Rg


set_option maxRecDepth 100000 in
set_option maxHeartbeats 8000000 in
theorem refConfig_core (mh mb mr ci co cl ad li st ca sh te di dr ds rp : Int) (pA : Option Addr) (pn pc : Nat) (mi nu de ho wi : Int) (salt cook : ByteArray) (mir : Bool) (iA : Option Addr) (im ik : Nat) (ig : List ByteArray) (b0 b1 b2 b3 b4 b5 b6 b7 b8 b9 b10 b11 b12 b13 b14 b15 pb tk : Bool) (w : World)
    (C0 : Hid (∀ w, Calls Try.prog 24 #[.int .i64 mh, .int .i64 64, .int .i64 16384] w fun e w' => e = .returned (.bool b0) ∧ w = w'))
    (C1 : Hid (∀ w, Calls Try.prog 24 #[.int .i64 mb, .int .i64 0, .int .i64 100000] w fun e w' => e = .returned (.bool b1) ∧ w = w'))
    (C2 : Hid (∀ w, Calls Try.prog 24 #[.int .i64 mr, .int .i64 0, .int .i64 100000] w fun e w' => e = .returned (.bool b2) ∧ w = w'))
    (C3 : Hid (∀ w, Calls Try.prog 24 #[.int .i64 ci, .int .i64 mh, .int .i64 100000] w fun e w' => e = .returned (.bool b3) ∧ w = w'))
    (C4 : Hid (∀ w, Calls Try.prog 24 #[.int .i64 co, .int .i64 1, .int .i64 100000] w fun e w' => e = .returned (.bool b4) ∧ w = w'))
    (C5 : Hid (∀ w, Calls Try.prog 24 #[.int .i64 cl, .int .i64 1, .int .i64 100] w fun e w' => e = .returned (.bool b5) ∧ w = w'))
    (C6 : Hid (∀ w, Calls Try.prog 24 #[.int .i64 ad, .int .i64 1, .int .i64 100] w fun e w' => e = .returned (.bool b6) ∧ w = w'))
    (C7 : Hid (∀ w, Calls Try.prog 24 #[.int .i64 li, .int .i64 1, .int .i64 100] w fun e w' => e = .returned (.bool b7) ∧ w = w'))
    (C8 : Hid (∀ w, Calls Try.prog 24 #[.int .i64 st, .int .i64 0, .int .i64 100] w fun e w' => e = .returned (.bool b8) ∧ w = w'))
    (C9 : Hid (∀ w, Calls Try.prog 24 #[.int .i64 ca, .int .i64 0, .int .i64 100] w fun e w' => e = .returned (.bool b9) ∧ w = w'))
    (C10 : Hid (∀ w, Calls Try.prog 24 #[.int .i64 sh, .int .i64 0, .int .i64 100] w fun e w' => e = .returned (.bool b10) ∧ w = w'))
    (C11 : Hid (∀ w, Calls Try.prog 24 #[.int .i64 te, .int .i64 0, .int .i64 500000] w fun e w' => e = .returned (.bool b11) ∧ w = w'))
    (C12 : Hid (∀ w, Calls Try.prog 24 #[.int .i64 di, .int .i64 1, .int .i64 1000000] w fun e w' => e = .returned (.bool b12) ∧ w = w'))
    (C13 : Hid (∀ w, Calls Try.prog 24 #[.int .i64 dr, .int .i64 1, .int .i64 1000000] w fun e w' => e = .returned (.bool b13) ∧ w = w'))
    (C14 : Hid (∀ w, Calls Try.prog 24 #[.int .i64 ds, .int .i64 1, .int .i64 1000000] w fun e w' => e = .returned (.bool b14) ∧ w = w'))
    (C15 : Hid (∀ w, Calls Try.prog 24 #[.int .i64 rp, .int .i64 0, .int .i64 10000] w fun e w' => e = .returned (.bool b15) ∧ w = w'))
    (CP : Hid (∀ W, Ext w W → Calls Try.prog 25 #[pl pA pn pc mi nu de ho wi] W fun e w' => e = .returned (.int .i64 (if pb then 0 else 8)) ∧ Ext W w'))
    (CT : Hid (∀ w, Calls Try.prog 26 #[.string cook] w fun e w' => e = .returned (.bool tk) ∧ w = w'))
    (hr : Row w w.heap.size 1 iA im (ig.map Value.string)) (hm : im ≤ ik) (hkm : ik ≤ 9223372036854775807) (HS : Hid (∀ s ∈ ig, s.size ≤ 9223372036854775807)) (h1 : salt.size ≤ 9223372036854775807) (h2 : cook.size ≤ 9223372036854775807) :
    Calls Try.prog 9 #[cv ⟨mh, mb, mr, ci, co, cl, ad, li, st, ca, sh, te, di, dr, ds, rp, pA, pn, pc, mi, nu, de, ho, wi, salt, cook, mir, iA, im, ik⟩] w fun e w' => e = .returned (.int .i64 (if (b0 && (b1 && (b2 && (b3 && (b4 && (b5 && (b6 && (b7 && (b8 && (b9 && (b10 && (b11 && (b12 && (b13 && (b14 && (b15 && (pb && (decide (salt.size ≤ 64) && (tk && (decide (cook.size ≤ 64) && decide (im ≤ 16))))))))))))))))))))) && ig.all tokB then 0 else 8)) ∧ Ext w w' := by
  have hl : ig.length = im := by have := hr.1; simpa using this
  have HL := Lib.hid hl
  have HR := Lib.hid hr
  clear hl hr
  obtain ⟨ok0, hok⟩ : ∃ b, b = (b0 && (b1 && (b2 && (b3 && (b4 && (b5 && (b6 && (b7 && (b8 && (b9 && (b10 && (b11 && (b12 && (b13 && (b14 && (b15 && (pb && (decide (salt.size ≤ 64) && (tk && (decide (cook.size ≤ 64) && decide (im ≤ 16))))))))))))))))))))) := ⟨_, rfl⟩
  rw [← hok]
  have HO := Lib.hid hok
  clear hok
  go_enter Try.func9, Try.ntmps9
  go_upto_region 1 with fail
  refine wp_at fun Y hY => ?_
  obtain ⟨N, hN⟩ : ∃ N, N = w.heap.size := ⟨_, rfl⟩
  have hA : Box 0 [.int .i64 mh, .int .i64 mb, .int .i64 mr, .int .i64 ci, .int .i64 co, .int .i64 cl, .int .i64 ad, .int .i64 li, .int .i64 st, .int .i64 ca, .int .i64 sh, .int .i64 te, .int .i64 di, .int .i64 dr, .int .i64 ds, .int .i64 rp, .slice pA pn pc, .int .i64 mi, .int .i64 nu, .int .i64 de, .int .i64 ho, .int .i64 wi, .string salt, .string cook, .bool mir, .slice iA im ik] N Y := by
    rw [hY]
    repeat' (first | with_reducible assumption | ((with_reducible refine Box.fresh ?fb ?fn ?fr); (case fb => first | omega | (simp <;> omega)); (case fn => first | omega | (simp <;> omega)); (case fr => rfl)) | with_reducible apply Box.up | with_reducible apply Box.drew_ | with_reducible apply Box.drewN_ | with_reducible apply Box.plus_ | with_reducible apply Box.put | with_reducible refine Box.off ?_ (by omega))
    all_goals first | rfl | (simp; done)
  have hE : Ext w Y := by
    rw [hY]
    repeat' (first | with_reducible assumption | with_reducible exact Ext.refl _ | with_reducible apply Ext.alloc | with_reducible apply Ext.drew | with_reducible apply Ext.drewN | with_reducible apply Ext.plus_ | with_reducible refine Ext.put ?_ (by omega))
  rw [← hN]
  have HE := Lib.hid hE
  have HB := Lib.hid hA
  clear hY hN hE
  go_cut [3] from 5 to 113 (fun s3 wx => s3 = .bool ok0 ∧ Hid (Ext Y wx))
  case first =>
    clear hA HL HR HS
    obtain ⟨sB, hsB⟩ : ∃ b, b = decide (salt.size ≤ 64) := ⟨_, rfl⟩
    obtain ⟨cB, hcB⟩ : ∃ b, b = decide (cook.size ≤ 64) := ⟨_, rfl⟩
    obtain ⟨iB, hiB⟩ : ∃ b, b = decide (im ≤ 16) := ⟨_, rfl⟩
    rw [← hsB, ← hcB, ← hiB] at HO
    have HQS : Hid (decide ((salt.size : Int) ≤ 64) = sB ∧ decide ((cook.size : Int) ≤ 64) = cB ∧ decide ((im : Int) ≤ 16) = iB) := by
      refine Lib.hid ⟨?_, ?_, ?_⟩
      · rw [hsB, Bool.eq_iff_iff]
        simp only [decide_eq_true_eq]
        omega
      · rw [hcB, Bool.eq_iff_iff]
        simp only [decide_eq_true_eq]
        omega
      · rw [hiB, Bool.eq_iff_iff]
        simp only [decide_eq_true_eq]
        omega
    clear hsB hcB hiB
    obtain ⟨p0, hp0⟩ : ∃ b, b = (b0 && b1) := ⟨_, rfl⟩
    have Hp0 := Lib.hid hp0
    clear hp0
    obtain ⟨p1, hp1⟩ : ∃ b, b = (p0 && b2) := ⟨_, rfl⟩
    have Hp1 := Lib.hid hp1
    clear hp1
    obtain ⟨p2, hp2⟩ : ∃ b, b = (p1 && b3) := ⟨_, rfl⟩
    have Hp2 := Lib.hid hp2
    clear hp2
    obtain ⟨p3, hp3⟩ : ∃ b, b = (p2 && b4) := ⟨_, rfl⟩
    have Hp3 := Lib.hid hp3
    clear hp3
    obtain ⟨p4, hp4⟩ : ∃ b, b = (p3 && b5) := ⟨_, rfl⟩
    have Hp4 := Lib.hid hp4
    clear hp4
    obtain ⟨p5, hp5⟩ : ∃ b, b = (p4 && b6) := ⟨_, rfl⟩
    have Hp5 := Lib.hid hp5
    clear hp5
    obtain ⟨p6, hp6⟩ : ∃ b, b = (p5 && b7) := ⟨_, rfl⟩
    have Hp6 := Lib.hid hp6
    clear hp6
    obtain ⟨p7, hp7⟩ : ∃ b, b = (p6 && b8) := ⟨_, rfl⟩
    have Hp7 := Lib.hid hp7
    clear hp7
    obtain ⟨p8, hp8⟩ : ∃ b, b = (p7 && b9) := ⟨_, rfl⟩
    have Hp8 := Lib.hid hp8
    clear hp8
    obtain ⟨p9, hp9⟩ : ∃ b, b = (p8 && b10) := ⟨_, rfl⟩
    have Hp9 := Lib.hid hp9
    clear hp9
    obtain ⟨p10, hp10⟩ : ∃ b, b = (p9 && b11) := ⟨_, rfl⟩
    have Hp10 := Lib.hid hp10
    clear hp10
    obtain ⟨p11, hp11⟩ : ∃ b, b = (p10 && b12) := ⟨_, rfl⟩
    have Hp11 := Lib.hid hp11
    clear hp11
    obtain ⟨p12, hp12⟩ : ∃ b, b = (p11 && b13) := ⟨_, rfl⟩
    have Hp12 := Lib.hid hp12
    clear hp12
    obtain ⟨p13, hp13⟩ : ∃ b, b = (p12 && b14) := ⟨_, rfl⟩
    have Hp13 := Lib.hid hp13
    clear hp13
    obtain ⟨p14, hp14⟩ : ∃ b, b = (p13 && b15) := ⟨_, rfl⟩
    have Hp14 := Lib.hid hp14
    clear hp14
    obtain ⟨p15, hp15⟩ : ∃ b, b = (p14 && pb) := ⟨_, rfl⟩
    have Hp15 := Lib.hid hp15
    clear hp15
    obtain ⟨p16, hp16⟩ : ∃ b, b = (p15 && sB) := ⟨_, rfl⟩
    have Hp16 := Lib.hid hp16
    clear hp16
    obtain ⟨p17, hp17⟩ : ∃ b, b = (p16 && tk) := ⟨_, rfl⟩
    have Hp17 := Lib.hid hp17
    clear hp17
    obtain ⟨p18, hp18⟩ : ∃ b, b = (p17 && cB) := ⟨_, rfl⟩
    have Hp18 := Lib.hid hp18
    clear hp18
    obtain ⟨p19, hp19⟩ : ∃ b, b = (p18 && iB) := ⟨_, rfl⟩
    have Hp19 := Lib.hid hp19
    clear hp19
    have HOK : Hid (ok0 = p19) := Lib.hid (by
      rw [HO.out, Hp19.out, Hp18.out, Hp17.out, Hp16.out, Hp15.out, Hp14.out, Hp13.out, Hp12.out, Hp11.out, Hp10.out, Hp9.out, Hp8.out, Hp7.out, Hp6.out, Hp5.out, Hp4.out, Hp3.out, Hp2.out, Hp1.out, Hp0.out]
      simp only [Bool.and_assoc])
    clear HO
    simp only [List.append_eq, List.cons_append, List.nil_append]
    refine act_at fun A0 hA0 => ?_
    have hsz : A0.tmps.size = 132 := by
      rw [hA0]
      rfl
    have hA1 : A0.tmps.getD 1 undef = .pointer (some ⟨N, 0, none⟩) := by
      rw [hA0]
      rfl
    have HA0 := Lib.hid hA0
    clear hA0
    apply wp_region_seq 109 [is (.pointer (some ⟨N, 0, none⟩)), is (.int .i64 mh), is (.bool b0), is (.bool b0), isIf b0 (.pointer (some ⟨N, 1, none⟩)), isIf b0 (.int .i64 mb), isIf b0 (.bool b1), is (.bool p0), is (.bool p0), isIf p0 (.pointer (some ⟨N, 2, none⟩)), isIf p0 (.int .i64 mr), isIf p0 (.bool b2), is (.bool p1), is (.bool p1), isIf p1 (.pointer (some ⟨N, 3, none⟩)), isIf p1 (.int .i64 ci), isIf p1 (.pointer (some ⟨N, 0, none⟩)), isIf p1 (.int .i64 mh), isIf p1 (.bool b3), is (.bool p2), is (.bool p2), isIf p2 (.pointer (some ⟨N, 4, none⟩)), isIf p2 (.int .i64 co), isIf p2 (.bool b4), is (.bool p3), is (.bool p3), isIf p3 (.pointer (some ⟨N, 5, none⟩)), isIf p3 (.int .i64 cl), isIf p3 (.bool b5), is (.bool p4), is (.bool p4), isIf p4 (.pointer (some ⟨N, 6, none⟩)), isIf p4 (.int .i64 ad), isIf p4 (.bool b6), is (.bool p5), is (.bool p5), isIf p5 (.pointer (some ⟨N, 7, none⟩)), isIf p5 (.int .i64 li), isIf p5 (.bool b7), is (.bool p6), is (.bool p6), isIf p6 (.pointer (some ⟨N, 8, none⟩)), isIf p6 (.int .i64 st), isIf p6 (.bool b8), is (.bool p7), is (.bool p7), isIf p7 (.pointer (some ⟨N, 9, none⟩)), isIf p7 (.int .i64 ca), isIf p7 (.bool b9), is (.bool p8), is (.bool p8), isIf p8 (.pointer (some ⟨N, 10, none⟩)), isIf p8 (.int .i64 sh), isIf p8 (.bool b10), is (.bool p9), is (.bool p9), isIf p9 (.pointer (some ⟨N, 11, none⟩)), isIf p9 (.int .i64 te), isIf p9 (.bool b11), is (.bool p10), is (.bool p10), isIf p10 (.pointer (some ⟨N, 12, none⟩)), isIf p10 (.int .i64 di), isIf p10 (.bool b12), is (.bool p11), is (.bool p11), isIf p11 (.pointer (some ⟨N, 13, none⟩)), isIf p11 (.int .i64 dr), isIf p11 (.bool b13), is (.bool p12), is (.bool p12), isIf p12 (.pointer (some ⟨N, 14, none⟩)), isIf p12 (.int .i64 ds), isIf p12 (.bool b14), is (.bool p13), is (.bool p13), isIf p13 (.pointer (some ⟨N, 15, none⟩)), isIf p13 (.int .i64 rp), isIf p13 (.bool b15), is (.bool p14), is (.bool p14), isIf p14 (.pointer (some ⟨N, 16, none⟩)), isIf p14 (pl pA pn pc mi nu de ho wi), isIf p14 (.int .i64 (if pb then 0 else 8)), isIf p14 (.bool pb), is (.bool p15), is (.bool p15), isIf p15 (.pointer (some ⟨N, 22, none⟩)), isIf p15 (.string salt), isIf p15 (.int .i64 (salt.size : Nat)), isIf p15 (.bool sB), is (.bool p16), is (.bool p16), isIf p16 (.pointer (some ⟨N, 23, none⟩)), isIf p16 (.string cook), isIf p16 (.bool tk), is (.bool p17), is (.bool p17), isIf p17 (.pointer (some ⟨N, 23, none⟩)), isIf p17 (.string cook), isIf p17 (.int .i64 (cook.size : Nat)), isIf p17 (.bool cB), is (.bool p18), is (.bool p18), isIf p18 (.pointer (some ⟨N, 25, none⟩)), isIf p18 (.slice iA im ik), isIf p18 (.int .i64 (im : Nat)), isIf p18 (.bool iB), is (.bool p19)] (by kernel_rfl) (by kernel_rfl) rfl
    case hops =>
      simp only [List.take_succ_cons, List.take_zero]

      with_reducible refine xOps_cons ?_ ?_
      · with_reducible refine xop_un ?_ ?_
        · rfl
        · intro vs x F hF hd
          have e1 : F.tmps.getD 1 undef = .pointer (some ⟨N, 0, none⟩) := (hF.a 1 (by kernel_rfl) (by rw [hsz]; rfl)).trans hA1
          clear hF hd
          simp only [comes]
          go_simp
          first | exact ⟨Ext.refl _, rfl⟩ | exact Ext.refl _
      with_reducible refine xOps_cons ?_ ?_
      · with_reducible refine xop_un ?_ ?_
        · rfl
        · intro vs x F hF hd
          have e1 : F.tmps.getD 5 undef = .pointer (some ⟨N, 0, none⟩) := (hF.v 5 0 (by kernel_rfl) (by rw [hsz]; rfl)).trans (dep_at hd 0 0 (is (.pointer (some ⟨N, 0, none⟩))) (by kernel_rfl) (by kernel_rfl))
          have c : Y.cell? ⟨N, 0, none⟩ = some (.int .i64 mh) := HB.out.cell 0 (by simp)
          clear hF hd
          simp only [comes]
          go_simp
          first | exact ⟨Ext.refl _, rfl⟩ | exact Ext.refl _
      with_reducible refine xOps_cons ?_ ?_
      · with_reducible refine xop_un ?_ ?_
        · rfl
        · intro vs x F hF hd
          have e6 : F.tmps.getD 6 undef = .int .i64 mh := (hF.v 6 1 (by kernel_rfl) (by rw [hsz]; rfl)).trans (dep_at hd 0 1 (is (.int .i64 mh)) (by kernel_rfl) (by kernel_rfl))
          clear hF hd
          simp only [comes]
          go_simp
          refine (C0.out _).mono ?_
          rintro e w' ⟨rfl, rfl⟩
          first | exact ⟨_, rfl, Ext.refl _, rfl⟩ | exact ⟨_, rfl, Ext.refl _⟩ | exact ⟨rfl, Ext.refl _⟩ | exact ⟨_, Ext.refl _⟩ | exact Ext.refl _
      with_reducible refine xOps_cons ?_ ?_
      · with_reducible refine xop_un ?_ ?_
        · rfl
        · intro vs x F hF hd
          have e1 : F.tmps.getD 7 undef = .bool b0 := (hF.v 7 2 (by kernel_rfl) (by rw [hsz]; rfl)).trans (dep_at hd 0 2 (is (.bool b0)) (by kernel_rfl) (by kernel_rfl))
          clear hF hd
          simp only [comes]
          go_simp
          first | exact ⟨Ext.refl _, rfl⟩ | exact Ext.refl _
      with_reducible refine xOps_cons ?_ ?_
      · with_reducible refine xop_if 3 8 3 0 ?_ ?_ ?_ ?_ ?_ ?_ ?_
        · rfl
        · kernel_rfl
        · kernel_rfl
        · rw [hsz]; rfl
        · kernel_rfl
        · kernel_rfl
        · intro hp vs x F hF hd
          have e1 : F.tmps.getD 1 undef = .pointer (some ⟨N, 0, none⟩) := (hF.a 1 (by kernel_rfl) (by rw [hsz]; rfl)).trans hA1
          clear hF hd
          simp only [comes]
          go_simp
          first | exact ⟨Ext.refl _, rfl⟩ | exact Ext.refl _
      with_reducible refine xOps_cons ?_ ?_
      · with_reducible refine xop_if 3 8 3 1 ?_ ?_ ?_ ?_ ?_ ?_ ?_
        · rfl
        · kernel_rfl
        · kernel_rfl
        · rw [hsz]; rfl
        · kernel_rfl
        · kernel_rfl
        · intro hp vs x F hF hd
          have e1 : F.tmps.getD 9 undef = .pointer (some ⟨N, 1, none⟩) := (hF.v 9 4 (by kernel_rfl) (by rw [hsz]; rfl)).trans (dep_at hd 0 4 (isIf b0 (.pointer (some ⟨N, 1, none⟩))) (by kernel_rfl) (by kernel_rfl) hp)
          have c : Y.cell? ⟨N, 1, none⟩ = some (.int .i64 mb) := HB.out.cell 1 (by simp)
          clear hF hd
          simp only [comes]
          go_simp
          first | exact ⟨Ext.refl _, rfl⟩ | exact Ext.refl _
      with_reducible refine xOps_cons ?_ ?_
      · with_reducible refine xop_if 3 8 3 2 ?_ ?_ ?_ ?_ ?_ ?_ ?_
        · rfl
        · kernel_rfl
        · kernel_rfl
        · rw [hsz]; rfl
        · kernel_rfl
        · kernel_rfl
        · intro hp vs x F hF hd
          have e10 : F.tmps.getD 10 undef = .int .i64 mb := (hF.v 10 5 (by kernel_rfl) (by rw [hsz]; rfl)).trans (dep_at hd 0 5 (isIf b0 (.int .i64 mb)) (by kernel_rfl) (by kernel_rfl) hp)
          clear hF hd
          simp only [comes]
          go_simp
          refine (C1.out _).mono ?_
          rintro e w' ⟨rfl, rfl⟩
          first | exact ⟨_, rfl, Ext.refl _, rfl⟩ | exact ⟨_, rfl, Ext.refl _⟩ | exact ⟨rfl, Ext.refl _⟩ | exact ⟨_, Ext.refl _⟩ | exact Ext.refl _
      with_reducible refine xOps_cons ?_ ?_
      · with_reducible refine xop_un ?_ ?_
        · rfl
        · intro vs x F hF hd
          rw [Hp0.out]
          have e1 : F.tmps.getD 8 undef = .bool b0 := (hF.v 8 3 (by kernel_rfl) (by rw [hsz]; rfl)).trans (dep_at hd 0 3 (is (.bool b0)) (by kernel_rfl) (by kernel_rfl))
          have e2 : b0 = true → F.tmps.getD 11 undef = .bool b1 := fun hp => (hF.v 11 6 (by kernel_rfl) (by rw [hsz]; rfl)).trans (dep_at hd 1 6 (isIf b0 (.bool b1)) (by kernel_rfl) (by kernel_rfl) hp)
          clear Hp0
          clear hF hd
          cases b0
          · clear e2
            simp only [comes]
            go_simp
            first | exact ⟨Ext.refl _, rfl⟩ | exact Ext.refl _
          · have e3 := e2 rfl
            clear e2
            simp only [comes]
            go_simp
            first | exact ⟨Ext.refl _, rfl⟩ | exact Ext.refl _
      with_reducible refine xOps_cons ?_ ?_
      · with_reducible refine xop_un ?_ ?_
        · rfl
        · intro vs x F hF hd
          have e1 : F.tmps.getD 12 undef = .bool p0 := (hF.v 12 7 (by kernel_rfl) (by rw [hsz]; rfl)).trans (dep_at hd 0 7 (is (.bool p0)) (by kernel_rfl) (by kernel_rfl))
          clear hF hd
          simp only [comes]
          go_simp
          first | exact ⟨Ext.refl _, rfl⟩ | exact Ext.refl _
      with_reducible refine xOps_cons ?_ ?_
      · with_reducible refine xop_if 8 13 8 0 ?_ ?_ ?_ ?_ ?_ ?_ ?_
        · rfl
        · kernel_rfl
        · kernel_rfl
        · rw [hsz]; rfl
        · kernel_rfl
        · kernel_rfl
        · intro hp vs x F hF hd
          have e1 : F.tmps.getD 1 undef = .pointer (some ⟨N, 0, none⟩) := (hF.a 1 (by kernel_rfl) (by rw [hsz]; rfl)).trans hA1
          clear hF hd
          simp only [comes]
          go_simp
          first | exact ⟨Ext.refl _, rfl⟩ | exact Ext.refl _
      with_reducible refine xOps_cons ?_ ?_
      · with_reducible refine xop_if 8 13 8 1 ?_ ?_ ?_ ?_ ?_ ?_ ?_
        · rfl
        · kernel_rfl
        · kernel_rfl
        · rw [hsz]; rfl
        · kernel_rfl
        · kernel_rfl
        · intro hp vs x F hF hd
          have e1 : F.tmps.getD 14 undef = .pointer (some ⟨N, 2, none⟩) := (hF.v 14 9 (by kernel_rfl) (by rw [hsz]; rfl)).trans (dep_at hd 0 9 (isIf p0 (.pointer (some ⟨N, 2, none⟩))) (by kernel_rfl) (by kernel_rfl) hp)
          have c : Y.cell? ⟨N, 2, none⟩ = some (.int .i64 mr) := HB.out.cell 2 (by simp)
          clear hF hd
          simp only [comes]
          go_simp
          first | exact ⟨Ext.refl _, rfl⟩ | exact Ext.refl _
      with_reducible refine xOps_cons ?_ ?_
      · with_reducible refine xop_if 8 13 8 2 ?_ ?_ ?_ ?_ ?_ ?_ ?_
        · rfl
        · kernel_rfl
        · kernel_rfl
        · rw [hsz]; rfl
        · kernel_rfl
        · kernel_rfl
        · intro hp vs x F hF hd
          have e15 : F.tmps.getD 15 undef = .int .i64 mr := (hF.v 15 10 (by kernel_rfl) (by rw [hsz]; rfl)).trans (dep_at hd 0 10 (isIf p0 (.int .i64 mr)) (by kernel_rfl) (by kernel_rfl) hp)
          clear hF hd
          simp only [comes]
          go_simp
          refine (C2.out _).mono ?_
          rintro e w' ⟨rfl, rfl⟩
          first | exact ⟨_, rfl, Ext.refl _, rfl⟩ | exact ⟨_, rfl, Ext.refl _⟩ | exact ⟨rfl, Ext.refl _⟩ | exact ⟨_, Ext.refl _⟩ | exact Ext.refl _
      with_reducible refine xOps_cons ?_ ?_
      · with_reducible refine xop_un ?_ ?_
        · rfl
        · intro vs x F hF hd
          rw [Hp1.out]
          have e1 : F.tmps.getD 13 undef = .bool p0 := (hF.v 13 8 (by kernel_rfl) (by rw [hsz]; rfl)).trans (dep_at hd 0 8 (is (.bool p0)) (by kernel_rfl) (by kernel_rfl))
          have e2 : p0 = true → F.tmps.getD 16 undef = .bool b2 := fun hp => (hF.v 16 11 (by kernel_rfl) (by rw [hsz]; rfl)).trans (dep_at hd 1 11 (isIf p0 (.bool b2)) (by kernel_rfl) (by kernel_rfl) hp)
          clear Hp1
          clear hF hd
          cases p0
          · clear e2
            simp only [comes]
            go_simp
            first | exact ⟨Ext.refl _, rfl⟩ | exact Ext.refl _
          · have e3 := e2 rfl
            clear e2
            simp only [comes]
            go_simp
            first | exact ⟨Ext.refl _, rfl⟩ | exact Ext.refl _
      with_reducible refine xOps_cons ?_ ?_
      · with_reducible refine xop_un ?_ ?_
        · rfl
        · intro vs x F hF hd
          have e1 : F.tmps.getD 17 undef = .bool p1 := (hF.v 17 12 (by kernel_rfl) (by rw [hsz]; rfl)).trans (dep_at hd 0 12 (is (.bool p1)) (by kernel_rfl) (by kernel_rfl))
          clear hF hd
          simp only [comes]
          go_simp
          first | exact ⟨Ext.refl _, rfl⟩ | exact Ext.refl _
      with_reducible refine xOps_cons ?_ ?_
      · with_reducible refine xop_if 13 18 13 0 ?_ ?_ ?_ ?_ ?_ ?_ ?_
        · rfl
        · kernel_rfl
        · kernel_rfl
        · rw [hsz]; rfl
        · kernel_rfl
        · kernel_rfl
        · intro hp vs x F hF hd
          have e1 : F.tmps.getD 1 undef = .pointer (some ⟨N, 0, none⟩) := (hF.a 1 (by kernel_rfl) (by rw [hsz]; rfl)).trans hA1
          clear hF hd
          simp only [comes]
          go_simp
          first | exact ⟨Ext.refl _, rfl⟩ | exact Ext.refl _
      with_reducible refine xOps_cons ?_ ?_
      · with_reducible refine xop_if 13 18 13 1 ?_ ?_ ?_ ?_ ?_ ?_ ?_
        · rfl
        · kernel_rfl
        · kernel_rfl
        · rw [hsz]; rfl
        · kernel_rfl
        · kernel_rfl
        · intro hp vs x F hF hd
          have e1 : F.tmps.getD 19 undef = .pointer (some ⟨N, 3, none⟩) := (hF.v 19 14 (by kernel_rfl) (by rw [hsz]; rfl)).trans (dep_at hd 0 14 (isIf p1 (.pointer (some ⟨N, 3, none⟩))) (by kernel_rfl) (by kernel_rfl) hp)
          have c : Y.cell? ⟨N, 3, none⟩ = some (.int .i64 ci) := HB.out.cell 3 (by simp)
          clear hF hd
          simp only [comes]
          go_simp
          first | exact ⟨Ext.refl _, rfl⟩ | exact Ext.refl _
      with_reducible refine xOps_cons ?_ ?_
      · with_reducible refine xop_if 13 18 13 0 ?_ ?_ ?_ ?_ ?_ ?_ ?_
        · rfl
        · kernel_rfl
        · kernel_rfl
        · rw [hsz]; rfl
        · kernel_rfl
        · kernel_rfl
        · intro hp vs x F hF hd
          have e1 : F.tmps.getD 1 undef = .pointer (some ⟨N, 0, none⟩) := (hF.a 1 (by kernel_rfl) (by rw [hsz]; rfl)).trans hA1
          clear hF hd
          simp only [comes]
          go_simp
          first | exact ⟨Ext.refl _, rfl⟩ | exact Ext.refl _
      with_reducible refine xOps_cons ?_ ?_
      · with_reducible refine xop_if 13 18 13 1 ?_ ?_ ?_ ?_ ?_ ?_ ?_
        · rfl
        · kernel_rfl
        · kernel_rfl
        · rw [hsz]; rfl
        · kernel_rfl
        · kernel_rfl
        · intro hp vs x F hF hd
          have e1 : F.tmps.getD 21 undef = .pointer (some ⟨N, 0, none⟩) := (hF.v 21 16 (by kernel_rfl) (by rw [hsz]; rfl)).trans (dep_at hd 0 16 (isIf p1 (.pointer (some ⟨N, 0, none⟩))) (by kernel_rfl) (by kernel_rfl) hp)
          have c : Y.cell? ⟨N, 0, none⟩ = some (.int .i64 mh) := HB.out.cell 0 (by simp)
          clear hF hd
          simp only [comes]
          go_simp
          first | exact ⟨Ext.refl _, rfl⟩ | exact Ext.refl _
      with_reducible refine xOps_cons ?_ ?_
      · with_reducible refine xop_if 13 18 13 3 ?_ ?_ ?_ ?_ ?_ ?_ ?_
        · rfl
        · kernel_rfl
        · kernel_rfl
        · rw [hsz]; rfl
        · kernel_rfl
        · kernel_rfl
        · intro hp vs x F hF hd
          have e20 : F.tmps.getD 20 undef = .int .i64 ci := (hF.v 20 15 (by kernel_rfl) (by rw [hsz]; rfl)).trans (dep_at hd 0 15 (isIf p1 (.int .i64 ci)) (by kernel_rfl) (by kernel_rfl) hp)
          have e22 : F.tmps.getD 22 undef = .int .i64 mh := (hF.v 22 17 (by kernel_rfl) (by rw [hsz]; rfl)).trans (dep_at hd 1 17 (isIf p1 (.int .i64 mh)) (by kernel_rfl) (by kernel_rfl) hp)
          clear hF hd
          simp only [comes]
          go_simp
          refine (C3.out _).mono ?_
          rintro e w' ⟨rfl, rfl⟩
          first | exact ⟨_, rfl, Ext.refl _, rfl⟩ | exact ⟨_, rfl, Ext.refl _⟩ | exact ⟨rfl, Ext.refl _⟩ | exact ⟨_, Ext.refl _⟩ | exact Ext.refl _
      with_reducible refine xOps_cons ?_ ?_
      · with_reducible refine xop_un ?_ ?_
        · rfl
        · intro vs x F hF hd
          rw [Hp2.out]
          have e1 : F.tmps.getD 18 undef = .bool p1 := (hF.v 18 13 (by kernel_rfl) (by rw [hsz]; rfl)).trans (dep_at hd 0 13 (is (.bool p1)) (by kernel_rfl) (by kernel_rfl))
          have e2 : p1 = true → F.tmps.getD 23 undef = .bool b3 := fun hp => (hF.v 23 18 (by kernel_rfl) (by rw [hsz]; rfl)).trans (dep_at hd 1 18 (isIf p1 (.bool b3)) (by kernel_rfl) (by kernel_rfl) hp)
          clear Hp2
          clear hF hd
          cases p1
          · clear e2
            simp only [comes]
            go_simp
            first | exact ⟨Ext.refl _, rfl⟩ | exact Ext.refl _
          · have e3 := e2 rfl
            clear e2
            simp only [comes]
            go_simp
            first | exact ⟨Ext.refl _, rfl⟩ | exact Ext.refl _
      with_reducible refine xOps_cons ?_ ?_
      · with_reducible refine xop_un ?_ ?_
        · rfl
        · intro vs x F hF hd
          have e1 : F.tmps.getD 24 undef = .bool p2 := (hF.v 24 19 (by kernel_rfl) (by rw [hsz]; rfl)).trans (dep_at hd 0 19 (is (.bool p2)) (by kernel_rfl) (by kernel_rfl))
          clear hF hd
          simp only [comes]
          go_simp
          first | exact ⟨Ext.refl _, rfl⟩ | exact Ext.refl _
      with_reducible refine xOps_cons ?_ ?_
      · with_reducible refine xop_if 20 25 20 0 ?_ ?_ ?_ ?_ ?_ ?_ ?_
        · rfl
        · kernel_rfl
        · kernel_rfl
        · rw [hsz]; rfl
        · kernel_rfl
        · kernel_rfl
        · intro hp vs x F hF hd
          have e1 : F.tmps.getD 1 undef = .pointer (some ⟨N, 0, none⟩) := (hF.a 1 (by kernel_rfl) (by rw [hsz]; rfl)).trans hA1
          clear hF hd
          simp only [comes]
          go_simp
          first | exact ⟨Ext.refl _, rfl⟩ | exact Ext.refl _
      with_reducible refine xOps_cons ?_ ?_
      · with_reducible refine xop_if 20 25 20 1 ?_ ?_ ?_ ?_ ?_ ?_ ?_
        · rfl
        · kernel_rfl
        · kernel_rfl
        · rw [hsz]; rfl
        · kernel_rfl
        · kernel_rfl
        · intro hp vs x F hF hd
          have e1 : F.tmps.getD 26 undef = .pointer (some ⟨N, 4, none⟩) := (hF.v 26 21 (by kernel_rfl) (by rw [hsz]; rfl)).trans (dep_at hd 0 21 (isIf p2 (.pointer (some ⟨N, 4, none⟩))) (by kernel_rfl) (by kernel_rfl) hp)
          have c : Y.cell? ⟨N, 4, none⟩ = some (.int .i64 co) := HB.out.cell 4 (by simp)
          clear hF hd
          simp only [comes]
          go_simp
          first | exact ⟨Ext.refl _, rfl⟩ | exact Ext.refl _
      with_reducible refine xOps_cons ?_ ?_
      · with_reducible refine xop_if 20 25 20 2 ?_ ?_ ?_ ?_ ?_ ?_ ?_
        · rfl
        · kernel_rfl
        · kernel_rfl
        · rw [hsz]; rfl
        · kernel_rfl
        · kernel_rfl
        · intro hp vs x F hF hd
          have e27 : F.tmps.getD 27 undef = .int .i64 co := (hF.v 27 22 (by kernel_rfl) (by rw [hsz]; rfl)).trans (dep_at hd 0 22 (isIf p2 (.int .i64 co)) (by kernel_rfl) (by kernel_rfl) hp)
          clear hF hd
          simp only [comes]
          go_simp
          refine (C4.out _).mono ?_
          rintro e w' ⟨rfl, rfl⟩
          first | exact ⟨_, rfl, Ext.refl _, rfl⟩ | exact ⟨_, rfl, Ext.refl _⟩ | exact ⟨rfl, Ext.refl _⟩ | exact ⟨_, Ext.refl _⟩ | exact Ext.refl _
      with_reducible refine xOps_cons ?_ ?_
      · with_reducible refine xop_un ?_ ?_
        · rfl
        · intro vs x F hF hd
          rw [Hp3.out]
          have e1 : F.tmps.getD 25 undef = .bool p2 := (hF.v 25 20 (by kernel_rfl) (by rw [hsz]; rfl)).trans (dep_at hd 0 20 (is (.bool p2)) (by kernel_rfl) (by kernel_rfl))
          have e2 : p2 = true → F.tmps.getD 28 undef = .bool b4 := fun hp => (hF.v 28 23 (by kernel_rfl) (by rw [hsz]; rfl)).trans (dep_at hd 1 23 (isIf p2 (.bool b4)) (by kernel_rfl) (by kernel_rfl) hp)
          clear Hp3
          clear hF hd
          cases p2
          · clear e2
            simp only [comes]
            go_simp
            first | exact ⟨Ext.refl _, rfl⟩ | exact Ext.refl _
          · have e3 := e2 rfl
            clear e2
            simp only [comes]
            go_simp
            first | exact ⟨Ext.refl _, rfl⟩ | exact Ext.refl _
      with_reducible refine xOps_cons ?_ ?_
      · with_reducible refine xop_un ?_ ?_
        · rfl
        · intro vs x F hF hd
          have e1 : F.tmps.getD 29 undef = .bool p3 := (hF.v 29 24 (by kernel_rfl) (by rw [hsz]; rfl)).trans (dep_at hd 0 24 (is (.bool p3)) (by kernel_rfl) (by kernel_rfl))
          clear hF hd
          simp only [comes]
          go_simp
          first | exact ⟨Ext.refl _, rfl⟩ | exact Ext.refl _
      with_reducible refine xOps_cons ?_ ?_
      · with_reducible refine xop_if 25 30 25 0 ?_ ?_ ?_ ?_ ?_ ?_ ?_
        · rfl
        · kernel_rfl
        · kernel_rfl
        · rw [hsz]; rfl
        · kernel_rfl
        · kernel_rfl
        · intro hp vs x F hF hd
          have e1 : F.tmps.getD 1 undef = .pointer (some ⟨N, 0, none⟩) := (hF.a 1 (by kernel_rfl) (by rw [hsz]; rfl)).trans hA1
          clear hF hd
          simp only [comes]
          go_simp
          first | exact ⟨Ext.refl _, rfl⟩ | exact Ext.refl _
      with_reducible refine xOps_cons ?_ ?_
      · with_reducible refine xop_if 25 30 25 1 ?_ ?_ ?_ ?_ ?_ ?_ ?_
        · rfl
        · kernel_rfl
        · kernel_rfl
        · rw [hsz]; rfl
        · kernel_rfl
        · kernel_rfl
        · intro hp vs x F hF hd
          have e1 : F.tmps.getD 31 undef = .pointer (some ⟨N, 5, none⟩) := (hF.v 31 26 (by kernel_rfl) (by rw [hsz]; rfl)).trans (dep_at hd 0 26 (isIf p3 (.pointer (some ⟨N, 5, none⟩))) (by kernel_rfl) (by kernel_rfl) hp)
          have c : Y.cell? ⟨N, 5, none⟩ = some (.int .i64 cl) := HB.out.cell 5 (by simp)
          clear hF hd
          simp only [comes]
          go_simp
          first | exact ⟨Ext.refl _, rfl⟩ | exact Ext.refl _
      with_reducible refine xOps_cons ?_ ?_
      · with_reducible refine xop_if 25 30 25 2 ?_ ?_ ?_ ?_ ?_ ?_ ?_
        · rfl
        · kernel_rfl
        · kernel_rfl
        · rw [hsz]; rfl
        · kernel_rfl
        · kernel_rfl
        · intro hp vs x F hF hd
          have e32 : F.tmps.getD 32 undef = .int .i64 cl := (hF.v 32 27 (by kernel_rfl) (by rw [hsz]; rfl)).trans (dep_at hd 0 27 (isIf p3 (.int .i64 cl)) (by kernel_rfl) (by kernel_rfl) hp)
          clear hF hd
          simp only [comes]
          go_simp
          refine (C5.out _).mono ?_
          rintro e w' ⟨rfl, rfl⟩
          first | exact ⟨_, rfl, Ext.refl _, rfl⟩ | exact ⟨_, rfl, Ext.refl _⟩ | exact ⟨rfl, Ext.refl _⟩ | exact ⟨_, Ext.refl _⟩ | exact Ext.refl _
      with_reducible refine xOps_cons ?_ ?_
      · with_reducible refine xop_un ?_ ?_
        · rfl
        · intro vs x F hF hd
          rw [Hp4.out]
          have e1 : F.tmps.getD 30 undef = .bool p3 := (hF.v 30 25 (by kernel_rfl) (by rw [hsz]; rfl)).trans (dep_at hd 0 25 (is (.bool p3)) (by kernel_rfl) (by kernel_rfl))
          have e2 : p3 = true → F.tmps.getD 33 undef = .bool b5 := fun hp => (hF.v 33 28 (by kernel_rfl) (by rw [hsz]; rfl)).trans (dep_at hd 1 28 (isIf p3 (.bool b5)) (by kernel_rfl) (by kernel_rfl) hp)
          clear Hp4
          clear hF hd
          cases p3
          · clear e2
            simp only [comes]
            go_simp
            first | exact ⟨Ext.refl _, rfl⟩ | exact Ext.refl _
          · have e3 := e2 rfl
            clear e2
            simp only [comes]
            go_simp
            first | exact ⟨Ext.refl _, rfl⟩ | exact Ext.refl _
      with_reducible refine xOps_cons ?_ ?_
      · with_reducible refine xop_un ?_ ?_
        · rfl
        · intro vs x F hF hd
          have e1 : F.tmps.getD 34 undef = .bool p4 := (hF.v 34 29 (by kernel_rfl) (by rw [hsz]; rfl)).trans (dep_at hd 0 29 (is (.bool p4)) (by kernel_rfl) (by kernel_rfl))
          clear hF hd
          simp only [comes]
          go_simp
          first | exact ⟨Ext.refl _, rfl⟩ | exact Ext.refl _
      with_reducible refine xOps_cons ?_ ?_
      · with_reducible refine xop_if 30 35 30 0 ?_ ?_ ?_ ?_ ?_ ?_ ?_
        · rfl
        · kernel_rfl
        · kernel_rfl
        · rw [hsz]; rfl
        · kernel_rfl
        · kernel_rfl
        · intro hp vs x F hF hd
          have e1 : F.tmps.getD 1 undef = .pointer (some ⟨N, 0, none⟩) := (hF.a 1 (by kernel_rfl) (by rw [hsz]; rfl)).trans hA1
          clear hF hd
          simp only [comes]
          go_simp
          first | exact ⟨Ext.refl _, rfl⟩ | exact Ext.refl _
      with_reducible refine xOps_cons ?_ ?_
      · with_reducible refine xop_if 30 35 30 1 ?_ ?_ ?_ ?_ ?_ ?_ ?_
        · rfl
        · kernel_rfl
        · kernel_rfl
        · rw [hsz]; rfl
        · kernel_rfl
        · kernel_rfl
        · intro hp vs x F hF hd
          have e1 : F.tmps.getD 36 undef = .pointer (some ⟨N, 6, none⟩) := (hF.v 36 31 (by kernel_rfl) (by rw [hsz]; rfl)).trans (dep_at hd 0 31 (isIf p4 (.pointer (some ⟨N, 6, none⟩))) (by kernel_rfl) (by kernel_rfl) hp)
          have c : Y.cell? ⟨N, 6, none⟩ = some (.int .i64 ad) := HB.out.cell 6 (by simp)
          clear hF hd
          simp only [comes]
          go_simp
          first | exact ⟨Ext.refl _, rfl⟩ | exact Ext.refl _
      with_reducible refine xOps_cons ?_ ?_
      · with_reducible refine xop_if 30 35 30 2 ?_ ?_ ?_ ?_ ?_ ?_ ?_
        · rfl
        · kernel_rfl
        · kernel_rfl
        · rw [hsz]; rfl
        · kernel_rfl
        · kernel_rfl
        · intro hp vs x F hF hd
          have e37 : F.tmps.getD 37 undef = .int .i64 ad := (hF.v 37 32 (by kernel_rfl) (by rw [hsz]; rfl)).trans (dep_at hd 0 32 (isIf p4 (.int .i64 ad)) (by kernel_rfl) (by kernel_rfl) hp)
          clear hF hd
          simp only [comes]
          go_simp
          refine (C6.out _).mono ?_
          rintro e w' ⟨rfl, rfl⟩
          first | exact ⟨_, rfl, Ext.refl _, rfl⟩ | exact ⟨_, rfl, Ext.refl _⟩ | exact ⟨rfl, Ext.refl _⟩ | exact ⟨_, Ext.refl _⟩ | exact Ext.refl _
      with_reducible refine xOps_cons ?_ ?_
      · with_reducible refine xop_un ?_ ?_
        · rfl
        · intro vs x F hF hd
          rw [Hp5.out]
          have e1 : F.tmps.getD 35 undef = .bool p4 := (hF.v 35 30 (by kernel_rfl) (by rw [hsz]; rfl)).trans (dep_at hd 0 30 (is (.bool p4)) (by kernel_rfl) (by kernel_rfl))
          have e2 : p4 = true → F.tmps.getD 38 undef = .bool b6 := fun hp => (hF.v 38 33 (by kernel_rfl) (by rw [hsz]; rfl)).trans (dep_at hd 1 33 (isIf p4 (.bool b6)) (by kernel_rfl) (by kernel_rfl) hp)
          clear Hp5
          clear hF hd
          cases p4
          · clear e2
            simp only [comes]
            go_simp
            first | exact ⟨Ext.refl _, rfl⟩ | exact Ext.refl _
          · have e3 := e2 rfl
            clear e2
            simp only [comes]
            go_simp
            first | exact ⟨Ext.refl _, rfl⟩ | exact Ext.refl _
      with_reducible refine xOps_cons ?_ ?_
      · with_reducible refine xop_un ?_ ?_
        · rfl
        · intro vs x F hF hd
          have e1 : F.tmps.getD 39 undef = .bool p5 := (hF.v 39 34 (by kernel_rfl) (by rw [hsz]; rfl)).trans (dep_at hd 0 34 (is (.bool p5)) (by kernel_rfl) (by kernel_rfl))
          clear hF hd
          simp only [comes]
          go_simp
          first | exact ⟨Ext.refl _, rfl⟩ | exact Ext.refl _
      with_reducible refine xOps_cons ?_ ?_
      · with_reducible refine xop_if 35 40 35 0 ?_ ?_ ?_ ?_ ?_ ?_ ?_
        · rfl
        · kernel_rfl
        · kernel_rfl
        · rw [hsz]; rfl
        · kernel_rfl
        · kernel_rfl
        · intro hp vs x F hF hd
          have e1 : F.tmps.getD 1 undef = .pointer (some ⟨N, 0, none⟩) := (hF.a 1 (by kernel_rfl) (by rw [hsz]; rfl)).trans hA1
          clear hF hd
          simp only [comes]
          go_simp
          first | exact ⟨Ext.refl _, rfl⟩ | exact Ext.refl _
      with_reducible refine xOps_cons ?_ ?_
      · with_reducible refine xop_if 35 40 35 1 ?_ ?_ ?_ ?_ ?_ ?_ ?_
        · rfl
        · kernel_rfl
        · kernel_rfl
        · rw [hsz]; rfl
        · kernel_rfl
        · kernel_rfl
        · intro hp vs x F hF hd
          have e1 : F.tmps.getD 41 undef = .pointer (some ⟨N, 7, none⟩) := (hF.v 41 36 (by kernel_rfl) (by rw [hsz]; rfl)).trans (dep_at hd 0 36 (isIf p5 (.pointer (some ⟨N, 7, none⟩))) (by kernel_rfl) (by kernel_rfl) hp)
          have c : Y.cell? ⟨N, 7, none⟩ = some (.int .i64 li) := HB.out.cell 7 (by simp)
          clear hF hd
          simp only [comes]
          go_simp
          first | exact ⟨Ext.refl _, rfl⟩ | exact Ext.refl _
      with_reducible refine xOps_cons ?_ ?_
      · with_reducible refine xop_if 35 40 35 2 ?_ ?_ ?_ ?_ ?_ ?_ ?_
        · rfl
        · kernel_rfl
        · kernel_rfl
        · rw [hsz]; rfl
        · kernel_rfl
        · kernel_rfl
        · intro hp vs x F hF hd
          have e42 : F.tmps.getD 42 undef = .int .i64 li := (hF.v 42 37 (by kernel_rfl) (by rw [hsz]; rfl)).trans (dep_at hd 0 37 (isIf p5 (.int .i64 li)) (by kernel_rfl) (by kernel_rfl) hp)
          clear hF hd
          simp only [comes]
          go_simp
          refine (C7.out _).mono ?_
          rintro e w' ⟨rfl, rfl⟩
          first | exact ⟨_, rfl, Ext.refl _, rfl⟩ | exact ⟨_, rfl, Ext.refl _⟩ | exact ⟨rfl, Ext.refl _⟩ | exact ⟨_, Ext.refl _⟩ | exact Ext.refl _
      with_reducible refine xOps_cons ?_ ?_
      · with_reducible refine xop_un ?_ ?_
        · rfl
        · intro vs x F hF hd
          rw [Hp6.out]
          have e1 : F.tmps.getD 40 undef = .bool p5 := (hF.v 40 35 (by kernel_rfl) (by rw [hsz]; rfl)).trans (dep_at hd 0 35 (is (.bool p5)) (by kernel_rfl) (by kernel_rfl))
          have e2 : p5 = true → F.tmps.getD 43 undef = .bool b7 := fun hp => (hF.v 43 38 (by kernel_rfl) (by rw [hsz]; rfl)).trans (dep_at hd 1 38 (isIf p5 (.bool b7)) (by kernel_rfl) (by kernel_rfl) hp)
          clear Hp6
          clear hF hd
          cases p5
          · clear e2
            simp only [comes]
            go_simp
            first | exact ⟨Ext.refl _, rfl⟩ | exact Ext.refl _
          · have e3 := e2 rfl
            clear e2
            simp only [comes]
            go_simp
            first | exact ⟨Ext.refl _, rfl⟩ | exact Ext.refl _
      with_reducible refine xOps_cons ?_ ?_
      · with_reducible refine xop_un ?_ ?_
        · rfl
        · intro vs x F hF hd
          have e1 : F.tmps.getD 44 undef = .bool p6 := (hF.v 44 39 (by kernel_rfl) (by rw [hsz]; rfl)).trans (dep_at hd 0 39 (is (.bool p6)) (by kernel_rfl) (by kernel_rfl))
          clear hF hd
          simp only [comes]
          go_simp
          first | exact ⟨Ext.refl _, rfl⟩ | exact Ext.refl _
      with_reducible refine xOps_cons ?_ ?_
      · with_reducible refine xop_if 40 45 40 0 ?_ ?_ ?_ ?_ ?_ ?_ ?_
        · rfl
        · kernel_rfl
        · kernel_rfl
        · rw [hsz]; rfl
        · kernel_rfl
        · kernel_rfl
        · intro hp vs x F hF hd
          have e1 : F.tmps.getD 1 undef = .pointer (some ⟨N, 0, none⟩) := (hF.a 1 (by kernel_rfl) (by rw [hsz]; rfl)).trans hA1
          clear hF hd
          simp only [comes]
          go_simp
          first | exact ⟨Ext.refl _, rfl⟩ | exact Ext.refl _
      with_reducible refine xOps_cons ?_ ?_
      · with_reducible refine xop_if 40 45 40 1 ?_ ?_ ?_ ?_ ?_ ?_ ?_
        · rfl
        · kernel_rfl
        · kernel_rfl
        · rw [hsz]; rfl
        · kernel_rfl
        · kernel_rfl
        · intro hp vs x F hF hd
          have e1 : F.tmps.getD 46 undef = .pointer (some ⟨N, 8, none⟩) := (hF.v 46 41 (by kernel_rfl) (by rw [hsz]; rfl)).trans (dep_at hd 0 41 (isIf p6 (.pointer (some ⟨N, 8, none⟩))) (by kernel_rfl) (by kernel_rfl) hp)
          have c : Y.cell? ⟨N, 8, none⟩ = some (.int .i64 st) := HB.out.cell 8 (by simp)
          clear hF hd
          simp only [comes]
          go_simp
          first | exact ⟨Ext.refl _, rfl⟩ | exact Ext.refl _
      with_reducible refine xOps_cons ?_ ?_
      · with_reducible refine xop_if 40 45 40 2 ?_ ?_ ?_ ?_ ?_ ?_ ?_
        · rfl
        · kernel_rfl
        · kernel_rfl
        · rw [hsz]; rfl
        · kernel_rfl
        · kernel_rfl
        · intro hp vs x F hF hd
          have e47 : F.tmps.getD 47 undef = .int .i64 st := (hF.v 47 42 (by kernel_rfl) (by rw [hsz]; rfl)).trans (dep_at hd 0 42 (isIf p6 (.int .i64 st)) (by kernel_rfl) (by kernel_rfl) hp)
          clear hF hd
          simp only [comes]
          go_simp
          refine (C8.out _).mono ?_
          rintro e w' ⟨rfl, rfl⟩
          first | exact ⟨_, rfl, Ext.refl _, rfl⟩ | exact ⟨_, rfl, Ext.refl _⟩ | exact ⟨rfl, Ext.refl _⟩ | exact ⟨_, Ext.refl _⟩ | exact Ext.refl _
      with_reducible refine xOps_cons ?_ ?_
      · with_reducible refine xop_un ?_ ?_
        · rfl
        · intro vs x F hF hd
          rw [Hp7.out]
          have e1 : F.tmps.getD 45 undef = .bool p6 := (hF.v 45 40 (by kernel_rfl) (by rw [hsz]; rfl)).trans (dep_at hd 0 40 (is (.bool p6)) (by kernel_rfl) (by kernel_rfl))
          have e2 : p6 = true → F.tmps.getD 48 undef = .bool b8 := fun hp => (hF.v 48 43 (by kernel_rfl) (by rw [hsz]; rfl)).trans (dep_at hd 1 43 (isIf p6 (.bool b8)) (by kernel_rfl) (by kernel_rfl) hp)
          clear Hp7
          clear hF hd
          cases p6
          · clear e2
            simp only [comes]
            go_simp
            first | exact ⟨Ext.refl _, rfl⟩ | exact Ext.refl _
          · have e3 := e2 rfl
            clear e2
            simp only [comes]
            go_simp
            first | exact ⟨Ext.refl _, rfl⟩ | exact Ext.refl _
      with_reducible refine xOps_cons ?_ ?_
      · with_reducible refine xop_un ?_ ?_
        · rfl
        · intro vs x F hF hd
          have e1 : F.tmps.getD 49 undef = .bool p7 := (hF.v 49 44 (by kernel_rfl) (by rw [hsz]; rfl)).trans (dep_at hd 0 44 (is (.bool p7)) (by kernel_rfl) (by kernel_rfl))
          clear hF hd
          simp only [comes]
          go_simp
          first | exact ⟨Ext.refl _, rfl⟩ | exact Ext.refl _
      with_reducible refine xOps_cons ?_ ?_
      · with_reducible refine xop_if 45 50 45 0 ?_ ?_ ?_ ?_ ?_ ?_ ?_
        · rfl
        · kernel_rfl
        · kernel_rfl
        · rw [hsz]; rfl
        · kernel_rfl
        · kernel_rfl
        · intro hp vs x F hF hd
          have e1 : F.tmps.getD 1 undef = .pointer (some ⟨N, 0, none⟩) := (hF.a 1 (by kernel_rfl) (by rw [hsz]; rfl)).trans hA1
          clear hF hd
          simp only [comes]
          go_simp
          first | exact ⟨Ext.refl _, rfl⟩ | exact Ext.refl _
      with_reducible refine xOps_cons ?_ ?_
      · with_reducible refine xop_if 45 50 45 1 ?_ ?_ ?_ ?_ ?_ ?_ ?_
        · rfl
        · kernel_rfl
        · kernel_rfl
        · rw [hsz]; rfl
        · kernel_rfl
        · kernel_rfl
        · intro hp vs x F hF hd
          have e1 : F.tmps.getD 51 undef = .pointer (some ⟨N, 9, none⟩) := (hF.v 51 46 (by kernel_rfl) (by rw [hsz]; rfl)).trans (dep_at hd 0 46 (isIf p7 (.pointer (some ⟨N, 9, none⟩))) (by kernel_rfl) (by kernel_rfl) hp)
          have c : Y.cell? ⟨N, 9, none⟩ = some (.int .i64 ca) := HB.out.cell 9 (by simp)
          clear hF hd
          simp only [comes]
          go_simp
          first | exact ⟨Ext.refl _, rfl⟩ | exact Ext.refl _
      with_reducible refine xOps_cons ?_ ?_
      · with_reducible refine xop_if 45 50 45 2 ?_ ?_ ?_ ?_ ?_ ?_ ?_
        · rfl
        · kernel_rfl
        · kernel_rfl
        · rw [hsz]; rfl
        · kernel_rfl
        · kernel_rfl
        · intro hp vs x F hF hd
          have e52 : F.tmps.getD 52 undef = .int .i64 ca := (hF.v 52 47 (by kernel_rfl) (by rw [hsz]; rfl)).trans (dep_at hd 0 47 (isIf p7 (.int .i64 ca)) (by kernel_rfl) (by kernel_rfl) hp)
          clear hF hd
          simp only [comes]
          go_simp
          refine (C9.out _).mono ?_
          rintro e w' ⟨rfl, rfl⟩
          first | exact ⟨_, rfl, Ext.refl _, rfl⟩ | exact ⟨_, rfl, Ext.refl _⟩ | exact ⟨rfl, Ext.refl _⟩ | exact ⟨_, Ext.refl _⟩ | exact Ext.refl _
      with_reducible refine xOps_cons ?_ ?_
      · with_reducible refine xop_un ?_ ?_
        · rfl
        · intro vs x F hF hd
          rw [Hp8.out]
          have e1 : F.tmps.getD 50 undef = .bool p7 := (hF.v 50 45 (by kernel_rfl) (by rw [hsz]; rfl)).trans (dep_at hd 0 45 (is (.bool p7)) (by kernel_rfl) (by kernel_rfl))
          have e2 : p7 = true → F.tmps.getD 53 undef = .bool b9 := fun hp => (hF.v 53 48 (by kernel_rfl) (by rw [hsz]; rfl)).trans (dep_at hd 1 48 (isIf p7 (.bool b9)) (by kernel_rfl) (by kernel_rfl) hp)
          clear Hp8
          clear hF hd
          cases p7
          · clear e2
            simp only [comes]
            go_simp
            first | exact ⟨Ext.refl _, rfl⟩ | exact Ext.refl _
          · have e3 := e2 rfl
            clear e2
            simp only [comes]
            go_simp
            first | exact ⟨Ext.refl _, rfl⟩ | exact Ext.refl _
      with_reducible refine xOps_cons ?_ ?_
      · with_reducible refine xop_un ?_ ?_
        · rfl
        · intro vs x F hF hd
          have e1 : F.tmps.getD 54 undef = .bool p8 := (hF.v 54 49 (by kernel_rfl) (by rw [hsz]; rfl)).trans (dep_at hd 0 49 (is (.bool p8)) (by kernel_rfl) (by kernel_rfl))
          clear hF hd
          simp only [comes]
          go_simp
          first | exact ⟨Ext.refl _, rfl⟩ | exact Ext.refl _
      with_reducible refine xOps_cons ?_ ?_
      · with_reducible refine xop_if 50 55 50 0 ?_ ?_ ?_ ?_ ?_ ?_ ?_
        · rfl
        · kernel_rfl
        · kernel_rfl
        · rw [hsz]; rfl
        · kernel_rfl
        · kernel_rfl
        · intro hp vs x F hF hd
          have e1 : F.tmps.getD 1 undef = .pointer (some ⟨N, 0, none⟩) := (hF.a 1 (by kernel_rfl) (by rw [hsz]; rfl)).trans hA1
          clear hF hd
          simp only [comes]
          go_simp
          first | exact ⟨Ext.refl _, rfl⟩ | exact Ext.refl _
      with_reducible refine xOps_cons ?_ ?_
      · with_reducible refine xop_if 50 55 50 1 ?_ ?_ ?_ ?_ ?_ ?_ ?_
        · rfl
        · kernel_rfl
        · kernel_rfl
        · rw [hsz]; rfl
        · kernel_rfl
        · kernel_rfl
        · intro hp vs x F hF hd
          have e1 : F.tmps.getD 56 undef = .pointer (some ⟨N, 10, none⟩) := (hF.v 56 51 (by kernel_rfl) (by rw [hsz]; rfl)).trans (dep_at hd 0 51 (isIf p8 (.pointer (some ⟨N, 10, none⟩))) (by kernel_rfl) (by kernel_rfl) hp)
          have c : Y.cell? ⟨N, 10, none⟩ = some (.int .i64 sh) := HB.out.cell 10 (by simp)
          clear hF hd
          simp only [comes]
          go_simp
          first | exact ⟨Ext.refl _, rfl⟩ | exact Ext.refl _
      with_reducible refine xOps_cons ?_ ?_
      · with_reducible refine xop_if 50 55 50 2 ?_ ?_ ?_ ?_ ?_ ?_ ?_
        · rfl
        · kernel_rfl
        · kernel_rfl
        · rw [hsz]; rfl
        · kernel_rfl
        · kernel_rfl
        · intro hp vs x F hF hd
          have e57 : F.tmps.getD 57 undef = .int .i64 sh := (hF.v 57 52 (by kernel_rfl) (by rw [hsz]; rfl)).trans (dep_at hd 0 52 (isIf p8 (.int .i64 sh)) (by kernel_rfl) (by kernel_rfl) hp)
          clear hF hd
          simp only [comes]
          go_simp
          refine (C10.out _).mono ?_
          rintro e w' ⟨rfl, rfl⟩
          first | exact ⟨_, rfl, Ext.refl _, rfl⟩ | exact ⟨_, rfl, Ext.refl _⟩ | exact ⟨rfl, Ext.refl _⟩ | exact ⟨_, Ext.refl _⟩ | exact Ext.refl _
      with_reducible refine xOps_cons ?_ ?_
      · with_reducible refine xop_un ?_ ?_
        · rfl
        · intro vs x F hF hd
          rw [Hp9.out]
          have e1 : F.tmps.getD 55 undef = .bool p8 := (hF.v 55 50 (by kernel_rfl) (by rw [hsz]; rfl)).trans (dep_at hd 0 50 (is (.bool p8)) (by kernel_rfl) (by kernel_rfl))
          have e2 : p8 = true → F.tmps.getD 58 undef = .bool b10 := fun hp => (hF.v 58 53 (by kernel_rfl) (by rw [hsz]; rfl)).trans (dep_at hd 1 53 (isIf p8 (.bool b10)) (by kernel_rfl) (by kernel_rfl) hp)
          clear Hp9
          clear hF hd
          cases p8
          · clear e2
            simp only [comes]
            go_simp
            first | exact ⟨Ext.refl _, rfl⟩ | exact Ext.refl _
          · have e3 := e2 rfl
            clear e2
            simp only [comes]
            go_simp
            first | exact ⟨Ext.refl _, rfl⟩ | exact Ext.refl _
      with_reducible refine xOps_cons ?_ ?_
      · with_reducible refine xop_un ?_ ?_
        · rfl
        · intro vs x F hF hd
          have e1 : F.tmps.getD 59 undef = .bool p9 := (hF.v 59 54 (by kernel_rfl) (by rw [hsz]; rfl)).trans (dep_at hd 0 54 (is (.bool p9)) (by kernel_rfl) (by kernel_rfl))
          clear hF hd
          simp only [comes]
          go_simp
          first | exact ⟨Ext.refl _, rfl⟩ | exact Ext.refl _
      with_reducible refine xOps_cons ?_ ?_
      · with_reducible refine xop_if 55 60 55 0 ?_ ?_ ?_ ?_ ?_ ?_ ?_
        · rfl
        · kernel_rfl
        · kernel_rfl
        · rw [hsz]; rfl
        · kernel_rfl
        · kernel_rfl
        · intro hp vs x F hF hd
          have e1 : F.tmps.getD 1 undef = .pointer (some ⟨N, 0, none⟩) := (hF.a 1 (by kernel_rfl) (by rw [hsz]; rfl)).trans hA1
          clear hF hd
          simp only [comes]
          go_simp
          first | exact ⟨Ext.refl _, rfl⟩ | exact Ext.refl _
      with_reducible refine xOps_cons ?_ ?_
      · with_reducible refine xop_if 55 60 55 1 ?_ ?_ ?_ ?_ ?_ ?_ ?_
        · rfl
        · kernel_rfl
        · kernel_rfl
        · rw [hsz]; rfl
        · kernel_rfl
        · kernel_rfl
        · intro hp vs x F hF hd
          have e1 : F.tmps.getD 61 undef = .pointer (some ⟨N, 11, none⟩) := (hF.v 61 56 (by kernel_rfl) (by rw [hsz]; rfl)).trans (dep_at hd 0 56 (isIf p9 (.pointer (some ⟨N, 11, none⟩))) (by kernel_rfl) (by kernel_rfl) hp)
          have c : Y.cell? ⟨N, 11, none⟩ = some (.int .i64 te) := HB.out.cell 11 (by simp)
          clear hF hd
          simp only [comes]
          go_simp
          first | exact ⟨Ext.refl _, rfl⟩ | exact Ext.refl _
      with_reducible refine xOps_cons ?_ ?_
      · with_reducible refine xop_if 55 60 55 2 ?_ ?_ ?_ ?_ ?_ ?_ ?_
        · rfl
        · kernel_rfl
        · kernel_rfl
        · rw [hsz]; rfl
        · kernel_rfl
        · kernel_rfl
        · intro hp vs x F hF hd
          have e62 : F.tmps.getD 62 undef = .int .i64 te := (hF.v 62 57 (by kernel_rfl) (by rw [hsz]; rfl)).trans (dep_at hd 0 57 (isIf p9 (.int .i64 te)) (by kernel_rfl) (by kernel_rfl) hp)
          clear hF hd
          simp only [comes]
          go_simp
          refine (C11.out _).mono ?_
          rintro e w' ⟨rfl, rfl⟩
          first | exact ⟨_, rfl, Ext.refl _, rfl⟩ | exact ⟨_, rfl, Ext.refl _⟩ | exact ⟨rfl, Ext.refl _⟩ | exact ⟨_, Ext.refl _⟩ | exact Ext.refl _
      with_reducible refine xOps_cons ?_ ?_
      · with_reducible refine xop_un ?_ ?_
        · rfl
        · intro vs x F hF hd
          rw [Hp10.out]
          have e1 : F.tmps.getD 60 undef = .bool p9 := (hF.v 60 55 (by kernel_rfl) (by rw [hsz]; rfl)).trans (dep_at hd 0 55 (is (.bool p9)) (by kernel_rfl) (by kernel_rfl))
          have e2 : p9 = true → F.tmps.getD 63 undef = .bool b11 := fun hp => (hF.v 63 58 (by kernel_rfl) (by rw [hsz]; rfl)).trans (dep_at hd 1 58 (isIf p9 (.bool b11)) (by kernel_rfl) (by kernel_rfl) hp)
          clear Hp10
          clear hF hd
          cases p9
          · clear e2
            simp only [comes]
            go_simp
            first | exact ⟨Ext.refl _, rfl⟩ | exact Ext.refl _
          · have e3 := e2 rfl
            clear e2
            simp only [comes]
            go_simp
            first | exact ⟨Ext.refl _, rfl⟩ | exact Ext.refl _
      with_reducible refine xOps_cons ?_ ?_
      · with_reducible refine xop_un ?_ ?_
        · rfl
        · intro vs x F hF hd
          have e1 : F.tmps.getD 64 undef = .bool p10 := (hF.v 64 59 (by kernel_rfl) (by rw [hsz]; rfl)).trans (dep_at hd 0 59 (is (.bool p10)) (by kernel_rfl) (by kernel_rfl))
          clear hF hd
          simp only [comes]
          go_simp
          first | exact ⟨Ext.refl _, rfl⟩ | exact Ext.refl _
      with_reducible refine xOps_cons ?_ ?_
      · with_reducible refine xop_if 60 65 60 0 ?_ ?_ ?_ ?_ ?_ ?_ ?_
        · rfl
        · kernel_rfl
        · kernel_rfl
        · rw [hsz]; rfl
        · kernel_rfl
        · kernel_rfl
        · intro hp vs x F hF hd
          have e1 : F.tmps.getD 1 undef = .pointer (some ⟨N, 0, none⟩) := (hF.a 1 (by kernel_rfl) (by rw [hsz]; rfl)).trans hA1
          clear hF hd
          simp only [comes]
          go_simp
          first | exact ⟨Ext.refl _, rfl⟩ | exact Ext.refl _
      with_reducible refine xOps_cons ?_ ?_
      · with_reducible refine xop_if 60 65 60 1 ?_ ?_ ?_ ?_ ?_ ?_ ?_
        · rfl
        · kernel_rfl
        · kernel_rfl
        · rw [hsz]; rfl
        · kernel_rfl
        · kernel_rfl
        · intro hp vs x F hF hd
          have e1 : F.tmps.getD 66 undef = .pointer (some ⟨N, 12, none⟩) := (hF.v 66 61 (by kernel_rfl) (by rw [hsz]; rfl)).trans (dep_at hd 0 61 (isIf p10 (.pointer (some ⟨N, 12, none⟩))) (by kernel_rfl) (by kernel_rfl) hp)
          have c : Y.cell? ⟨N, 12, none⟩ = some (.int .i64 di) := HB.out.cell 12 (by simp)
          clear hF hd
          simp only [comes]
          go_simp
          first | exact ⟨Ext.refl _, rfl⟩ | exact Ext.refl _
      with_reducible refine xOps_cons ?_ ?_
      · with_reducible refine xop_if 60 65 60 2 ?_ ?_ ?_ ?_ ?_ ?_ ?_
        · rfl
        · kernel_rfl
        · kernel_rfl
        · rw [hsz]; rfl
        · kernel_rfl
        · kernel_rfl
        · intro hp vs x F hF hd
          have e67 : F.tmps.getD 67 undef = .int .i64 di := (hF.v 67 62 (by kernel_rfl) (by rw [hsz]; rfl)).trans (dep_at hd 0 62 (isIf p10 (.int .i64 di)) (by kernel_rfl) (by kernel_rfl) hp)
          clear hF hd
          simp only [comes]
          go_simp
          refine (C12.out _).mono ?_
          rintro e w' ⟨rfl, rfl⟩
          first | exact ⟨_, rfl, Ext.refl _, rfl⟩ | exact ⟨_, rfl, Ext.refl _⟩ | exact ⟨rfl, Ext.refl _⟩ | exact ⟨_, Ext.refl _⟩ | exact Ext.refl _
      with_reducible refine xOps_cons ?_ ?_
      · with_reducible refine xop_un ?_ ?_
        · rfl
        · intro vs x F hF hd
          rw [Hp11.out]
          have e1 : F.tmps.getD 65 undef = .bool p10 := (hF.v 65 60 (by kernel_rfl) (by rw [hsz]; rfl)).trans (dep_at hd 0 60 (is (.bool p10)) (by kernel_rfl) (by kernel_rfl))
          have e2 : p10 = true → F.tmps.getD 68 undef = .bool b12 := fun hp => (hF.v 68 63 (by kernel_rfl) (by rw [hsz]; rfl)).trans (dep_at hd 1 63 (isIf p10 (.bool b12)) (by kernel_rfl) (by kernel_rfl) hp)
          clear Hp11
          clear hF hd
          cases p10
          · clear e2
            simp only [comes]
            go_simp
            first | exact ⟨Ext.refl _, rfl⟩ | exact Ext.refl _
          · have e3 := e2 rfl
            clear e2
            simp only [comes]
            go_simp
            first | exact ⟨Ext.refl _, rfl⟩ | exact Ext.refl _
      with_reducible refine xOps_cons ?_ ?_
      · with_reducible refine xop_un ?_ ?_
        · rfl
        · intro vs x F hF hd
          have e1 : F.tmps.getD 69 undef = .bool p11 := (hF.v 69 64 (by kernel_rfl) (by rw [hsz]; rfl)).trans (dep_at hd 0 64 (is (.bool p11)) (by kernel_rfl) (by kernel_rfl))
          clear hF hd
          simp only [comes]
          go_simp
          first | exact ⟨Ext.refl _, rfl⟩ | exact Ext.refl _
      with_reducible refine xOps_cons ?_ ?_
      · with_reducible refine xop_if 65 70 65 0 ?_ ?_ ?_ ?_ ?_ ?_ ?_
        · rfl
        · kernel_rfl
        · kernel_rfl
        · rw [hsz]; rfl
        · kernel_rfl
        · kernel_rfl
        · intro hp vs x F hF hd
          have e1 : F.tmps.getD 1 undef = .pointer (some ⟨N, 0, none⟩) := (hF.a 1 (by kernel_rfl) (by rw [hsz]; rfl)).trans hA1
          clear hF hd
          simp only [comes]
          go_simp
          first | exact ⟨Ext.refl _, rfl⟩ | exact Ext.refl _
      with_reducible refine xOps_cons ?_ ?_
      · with_reducible refine xop_if 65 70 65 1 ?_ ?_ ?_ ?_ ?_ ?_ ?_
        · rfl
        · kernel_rfl
        · kernel_rfl
        · rw [hsz]; rfl
        · kernel_rfl
        · kernel_rfl
        · intro hp vs x F hF hd
          have e1 : F.tmps.getD 71 undef = .pointer (some ⟨N, 13, none⟩) := (hF.v 71 66 (by kernel_rfl) (by rw [hsz]; rfl)).trans (dep_at hd 0 66 (isIf p11 (.pointer (some ⟨N, 13, none⟩))) (by kernel_rfl) (by kernel_rfl) hp)
          have c : Y.cell? ⟨N, 13, none⟩ = some (.int .i64 dr) := HB.out.cell 13 (by simp)
          clear hF hd
          simp only [comes]
          go_simp
          first | exact ⟨Ext.refl _, rfl⟩ | exact Ext.refl _
      with_reducible refine xOps_cons ?_ ?_
      · with_reducible refine xop_if 65 70 65 2 ?_ ?_ ?_ ?_ ?_ ?_ ?_
        · rfl
        · kernel_rfl
        · kernel_rfl
        · rw [hsz]; rfl
        · kernel_rfl
        · kernel_rfl
        · intro hp vs x F hF hd
          have e72 : F.tmps.getD 72 undef = .int .i64 dr := (hF.v 72 67 (by kernel_rfl) (by rw [hsz]; rfl)).trans (dep_at hd 0 67 (isIf p11 (.int .i64 dr)) (by kernel_rfl) (by kernel_rfl) hp)
          clear hF hd
          simp only [comes]
          go_simp
          refine (C13.out _).mono ?_
          rintro e w' ⟨rfl, rfl⟩
          first | exact ⟨_, rfl, Ext.refl _, rfl⟩ | exact ⟨_, rfl, Ext.refl _⟩ | exact ⟨rfl, Ext.refl _⟩ | exact ⟨_, Ext.refl _⟩ | exact Ext.refl _
      with_reducible refine xOps_cons ?_ ?_
      · with_reducible refine xop_un ?_ ?_
        · rfl
        · intro vs x F hF hd
          rw [Hp12.out]
          have e1 : F.tmps.getD 70 undef = .bool p11 := (hF.v 70 65 (by kernel_rfl) (by rw [hsz]; rfl)).trans (dep_at hd 0 65 (is (.bool p11)) (by kernel_rfl) (by kernel_rfl))
          have e2 : p11 = true → F.tmps.getD 73 undef = .bool b13 := fun hp => (hF.v 73 68 (by kernel_rfl) (by rw [hsz]; rfl)).trans (dep_at hd 1 68 (isIf p11 (.bool b13)) (by kernel_rfl) (by kernel_rfl) hp)
          clear Hp12
          clear hF hd
          cases p11
          · clear e2
            simp only [comes]
            go_simp
            first | exact ⟨Ext.refl _, rfl⟩ | exact Ext.refl _
          · have e3 := e2 rfl
            clear e2
            simp only [comes]
            go_simp
            first | exact ⟨Ext.refl _, rfl⟩ | exact Ext.refl _
      with_reducible refine xOps_cons ?_ ?_
      · with_reducible refine xop_un ?_ ?_
        · rfl
        · intro vs x F hF hd
          have e1 : F.tmps.getD 74 undef = .bool p12 := (hF.v 74 69 (by kernel_rfl) (by rw [hsz]; rfl)).trans (dep_at hd 0 69 (is (.bool p12)) (by kernel_rfl) (by kernel_rfl))
          clear hF hd
          simp only [comes]
          go_simp
          first | exact ⟨Ext.refl _, rfl⟩ | exact Ext.refl _
      with_reducible refine xOps_cons ?_ ?_
      · with_reducible refine xop_if 70 75 70 0 ?_ ?_ ?_ ?_ ?_ ?_ ?_
        · rfl
        · kernel_rfl
        · kernel_rfl
        · rw [hsz]; rfl
        · kernel_rfl
        · kernel_rfl
        · intro hp vs x F hF hd
          have e1 : F.tmps.getD 1 undef = .pointer (some ⟨N, 0, none⟩) := (hF.a 1 (by kernel_rfl) (by rw [hsz]; rfl)).trans hA1
          clear hF hd
          simp only [comes]
          go_simp
          first | exact ⟨Ext.refl _, rfl⟩ | exact Ext.refl _
      with_reducible refine xOps_cons ?_ ?_
      · with_reducible refine xop_if 70 75 70 1 ?_ ?_ ?_ ?_ ?_ ?_ ?_
        · rfl
        · kernel_rfl
        · kernel_rfl
        · rw [hsz]; rfl
        · kernel_rfl
        · kernel_rfl
        · intro hp vs x F hF hd
          have e1 : F.tmps.getD 76 undef = .pointer (some ⟨N, 14, none⟩) := (hF.v 76 71 (by kernel_rfl) (by rw [hsz]; rfl)).trans (dep_at hd 0 71 (isIf p12 (.pointer (some ⟨N, 14, none⟩))) (by kernel_rfl) (by kernel_rfl) hp)
          have c : Y.cell? ⟨N, 14, none⟩ = some (.int .i64 ds) := HB.out.cell 14 (by simp)
          clear hF hd
          simp only [comes]
          go_simp
          first | exact ⟨Ext.refl _, rfl⟩ | exact Ext.refl _
      with_reducible refine xOps_cons ?_ ?_
      · with_reducible refine xop_if 70 75 70 2 ?_ ?_ ?_ ?_ ?_ ?_ ?_
        · rfl
        · kernel_rfl
        · kernel_rfl
        · rw [hsz]; rfl
        · kernel_rfl
        · kernel_rfl
        · intro hp vs x F hF hd
          have e77 : F.tmps.getD 77 undef = .int .i64 ds := (hF.v 77 72 (by kernel_rfl) (by rw [hsz]; rfl)).trans (dep_at hd 0 72 (isIf p12 (.int .i64 ds)) (by kernel_rfl) (by kernel_rfl) hp)
          clear hF hd
          simp only [comes]
          go_simp
          refine (C14.out _).mono ?_
          rintro e w' ⟨rfl, rfl⟩
          first | exact ⟨_, rfl, Ext.refl _, rfl⟩ | exact ⟨_, rfl, Ext.refl _⟩ | exact ⟨rfl, Ext.refl _⟩ | exact ⟨_, Ext.refl _⟩ | exact Ext.refl _
      with_reducible refine xOps_cons ?_ ?_
      · with_reducible refine xop_un ?_ ?_
        · rfl
        · intro vs x F hF hd
          rw [Hp13.out]
          have e1 : F.tmps.getD 75 undef = .bool p12 := (hF.v 75 70 (by kernel_rfl) (by rw [hsz]; rfl)).trans (dep_at hd 0 70 (is (.bool p12)) (by kernel_rfl) (by kernel_rfl))
          have e2 : p12 = true → F.tmps.getD 78 undef = .bool b14 := fun hp => (hF.v 78 73 (by kernel_rfl) (by rw [hsz]; rfl)).trans (dep_at hd 1 73 (isIf p12 (.bool b14)) (by kernel_rfl) (by kernel_rfl) hp)
          clear Hp13
          clear hF hd
          cases p12
          · clear e2
            simp only [comes]
            go_simp
            first | exact ⟨Ext.refl _, rfl⟩ | exact Ext.refl _
          · have e3 := e2 rfl
            clear e2
            simp only [comes]
            go_simp
            first | exact ⟨Ext.refl _, rfl⟩ | exact Ext.refl _
      with_reducible refine xOps_cons ?_ ?_
      · with_reducible refine xop_un ?_ ?_
        · rfl
        · intro vs x F hF hd
          have e1 : F.tmps.getD 79 undef = .bool p13 := (hF.v 79 74 (by kernel_rfl) (by rw [hsz]; rfl)).trans (dep_at hd 0 74 (is (.bool p13)) (by kernel_rfl) (by kernel_rfl))
          clear hF hd
          simp only [comes]
          go_simp
          first | exact ⟨Ext.refl _, rfl⟩ | exact Ext.refl _
      with_reducible refine xOps_cons ?_ ?_
      · with_reducible refine xop_if 75 80 75 0 ?_ ?_ ?_ ?_ ?_ ?_ ?_
        · rfl
        · kernel_rfl
        · kernel_rfl
        · rw [hsz]; rfl
        · kernel_rfl
        · kernel_rfl
        · intro hp vs x F hF hd
          have e1 : F.tmps.getD 1 undef = .pointer (some ⟨N, 0, none⟩) := (hF.a 1 (by kernel_rfl) (by rw [hsz]; rfl)).trans hA1
          clear hF hd
          simp only [comes]
          go_simp
          first | exact ⟨Ext.refl _, rfl⟩ | exact Ext.refl _
      with_reducible refine xOps_cons ?_ ?_
      · with_reducible refine xop_if 75 80 75 1 ?_ ?_ ?_ ?_ ?_ ?_ ?_
        · rfl
        · kernel_rfl
        · kernel_rfl
        · rw [hsz]; rfl
        · kernel_rfl
        · kernel_rfl
        · intro hp vs x F hF hd
          have e1 : F.tmps.getD 81 undef = .pointer (some ⟨N, 15, none⟩) := (hF.v 81 76 (by kernel_rfl) (by rw [hsz]; rfl)).trans (dep_at hd 0 76 (isIf p13 (.pointer (some ⟨N, 15, none⟩))) (by kernel_rfl) (by kernel_rfl) hp)
          have c : Y.cell? ⟨N, 15, none⟩ = some (.int .i64 rp) := HB.out.cell 15 (by simp)
          clear hF hd
          simp only [comes]
          go_simp
          first | exact ⟨Ext.refl _, rfl⟩ | exact Ext.refl _
      with_reducible refine xOps_cons ?_ ?_
      · with_reducible refine xop_if 75 80 75 2 ?_ ?_ ?_ ?_ ?_ ?_ ?_
        · rfl
        · kernel_rfl
        · kernel_rfl
        · rw [hsz]; rfl
        · kernel_rfl
        · kernel_rfl
        · intro hp vs x F hF hd
          have e82 : F.tmps.getD 82 undef = .int .i64 rp := (hF.v 82 77 (by kernel_rfl) (by rw [hsz]; rfl)).trans (dep_at hd 0 77 (isIf p13 (.int .i64 rp)) (by kernel_rfl) (by kernel_rfl) hp)
          clear hF hd
          simp only [comes]
          go_simp
          refine (C15.out _).mono ?_
          rintro e w' ⟨rfl, rfl⟩
          first | exact ⟨_, rfl, Ext.refl _, rfl⟩ | exact ⟨_, rfl, Ext.refl _⟩ | exact ⟨rfl, Ext.refl _⟩ | exact ⟨_, Ext.refl _⟩ | exact Ext.refl _
      with_reducible refine xOps_cons ?_ ?_
      · with_reducible refine xop_un ?_ ?_
        · rfl
        · intro vs x F hF hd
          rw [Hp14.out]
          have e1 : F.tmps.getD 80 undef = .bool p13 := (hF.v 80 75 (by kernel_rfl) (by rw [hsz]; rfl)).trans (dep_at hd 0 75 (is (.bool p13)) (by kernel_rfl) (by kernel_rfl))
          have e2 : p13 = true → F.tmps.getD 83 undef = .bool b15 := fun hp => (hF.v 83 78 (by kernel_rfl) (by rw [hsz]; rfl)).trans (dep_at hd 1 78 (isIf p13 (.bool b15)) (by kernel_rfl) (by kernel_rfl) hp)
          clear Hp14
          clear hF hd
          cases p13
          · clear e2
            simp only [comes]
            go_simp
            first | exact ⟨Ext.refl _, rfl⟩ | exact Ext.refl _
          · have e3 := e2 rfl
            clear e2
            simp only [comes]
            go_simp
            first | exact ⟨Ext.refl _, rfl⟩ | exact Ext.refl _
      with_reducible refine xOps_cons ?_ ?_
      · with_reducible refine xop_un ?_ ?_
        · rfl
        · intro vs x F hF hd
          have e1 : F.tmps.getD 84 undef = .bool p14 := (hF.v 84 79 (by kernel_rfl) (by rw [hsz]; rfl)).trans (dep_at hd 0 79 (is (.bool p14)) (by kernel_rfl) (by kernel_rfl))
          clear hF hd
          simp only [comes]
          go_simp
          first | exact ⟨Ext.refl _, rfl⟩ | exact Ext.refl _
      with_reducible refine xOps_cons ?_ ?_
      · with_reducible refine xop_if 80 85 80 0 ?_ ?_ ?_ ?_ ?_ ?_ ?_
        · rfl
        · kernel_rfl
        · kernel_rfl
        · rw [hsz]; rfl
        · kernel_rfl
        · kernel_rfl
        · intro hp vs x F hF hd
          have e1 : F.tmps.getD 1 undef = .pointer (some ⟨N, 0, none⟩) := (hF.a 1 (by kernel_rfl) (by rw [hsz]; rfl)).trans hA1
          clear hF hd
          simp only [comes]
          go_simp
          first | exact ⟨Ext.refl _, rfl⟩ | exact Ext.refl _
      with_reducible refine xOps_cons ?_ ?_
      · with_reducible refine xop_if 80 85 80 1 ?_ ?_ ?_ ?_ ?_ ?_ ?_
        · rfl
        · kernel_rfl
        · kernel_rfl
        · rw [hsz]; rfl
        · kernel_rfl
        · kernel_rfl
        · intro hp vs x F hF hd
          have e1 : F.tmps.getD 86 undef = .pointer (some ⟨N, 16, none⟩) := (hF.v 86 81 (by kernel_rfl) (by rw [hsz]; rfl)).trans (dep_at hd 0 81 (isIf p14 (.pointer (some ⟨N, 16, none⟩))) (by kernel_rfl) (by kernel_rfl) hp)
          have c0 : Y.cell? ⟨N, 16, none⟩ = some (.slice pA pn pc) := HB.out.cell 16 (by simp)
          have c1 : Y.cell? ⟨N, 17, none⟩ = some (.int .i64 mi) := HB.out.cell 17 (by simp)
          have c2 : Y.cell? ⟨N, 18, none⟩ = some (.int .i64 nu) := HB.out.cell 18 (by simp)
          have c3 : Y.cell? ⟨N, 19, none⟩ = some (.int .i64 de) := HB.out.cell 19 (by simp)
          have c4 : Y.cell? ⟨N, 20, none⟩ = some (.int .i64 ho) := HB.out.cell 20 (by simp)
          have c5 : Y.cell? ⟨N, 21, none⟩ = some (.int .i64 wi) := HB.out.cell 21 (by simp)
          clear hF hd
          simp only [comes]
          go_simp
          first | exact ⟨Ext.refl _, rfl⟩ | exact Ext.refl _
      with_reducible refine xOps_cons ?_ ?_
      · with_reducible refine xop_if 80 85 80 2 ?_ ?_ ?_ ?_ ?_ ?_ ?_
        · rfl
        · kernel_rfl
        · kernel_rfl
        · rw [hsz]; rfl
        · kernel_rfl
        · kernel_rfl
        · intro hp vs x F hF hd
          have e1 : F.tmps.getD 87 undef = pl pA pn pc mi nu de ho wi := (hF.v 87 82 (by kernel_rfl) (by rw [hsz]; rfl)).trans (dep_at hd 0 82 (isIf p14 (pl pA pn pc mi nu de ho wi)) (by kernel_rfl) (by kernel_rfl) hp)
          clear hF hd
          simp only [comes]
          go_simp
          refine (CP.out _ (HE.out.trans (by repeat (first | exact Ext.refl _ | assumption | apply Ext.plus_ | apply Ext.alloc | apply Ext.drew)))).mono ?_
          rintro e w' ⟨rfl, hE⟩
          first | exact ⟨_, rfl, hE, rfl⟩ | exact ⟨_, rfl, hE⟩ | exact ⟨rfl, hE⟩ | exact ⟨_, hE⟩ | exact hE
      with_reducible refine xOps_cons ?_ ?_
      · with_reducible refine xop_if 80 85 80 1 ?_ ?_ ?_ ?_ ?_ ?_ ?_
        · rfl
        · kernel_rfl
        · kernel_rfl
        · rw [hsz]; rfl
        · kernel_rfl
        · kernel_rfl
        · intro hp vs x F hF hd
          have e1 : F.tmps.getD 88 undef = .int .i64 (if pb then 0 else 8) := (hF.v 88 83 (by kernel_rfl) (by rw [hsz]; rfl)).trans (dep_at hd 0 83 (isIf p14 (.int .i64 (if pb then 0 else 8))) (by kernel_rfl) (by kernel_rfl) hp)
          clear hF hd
          cases pb
          · simp only [comes]
            go_simp
            first | exact ⟨Ext.refl _, rfl⟩ | exact Ext.refl _
          · simp only [comes]
            go_simp
            first | exact ⟨Ext.refl _, rfl⟩ | exact Ext.refl _
      with_reducible refine xOps_cons ?_ ?_
      · with_reducible refine xop_un ?_ ?_
        · rfl
        · intro vs x F hF hd
          rw [Hp15.out]
          have e1 : F.tmps.getD 85 undef = .bool p14 := (hF.v 85 80 (by kernel_rfl) (by rw [hsz]; rfl)).trans (dep_at hd 0 80 (is (.bool p14)) (by kernel_rfl) (by kernel_rfl))
          have e2 : p14 = true → F.tmps.getD 89 undef = .bool pb := fun hp => (hF.v 89 84 (by kernel_rfl) (by rw [hsz]; rfl)).trans (dep_at hd 1 84 (isIf p14 (.bool pb)) (by kernel_rfl) (by kernel_rfl) hp)
          clear Hp15
          clear hF hd
          cases p14
          · clear e2
            simp only [comes]
            go_simp
            first | exact ⟨Ext.refl _, rfl⟩ | exact Ext.refl _
          · have e3 := e2 rfl
            clear e2
            simp only [comes]
            go_simp
            first | exact ⟨Ext.refl _, rfl⟩ | exact Ext.refl _
      with_reducible refine xOps_cons ?_ ?_
      · with_reducible refine xop_un ?_ ?_
        · rfl
        · intro vs x F hF hd
          have e1 : F.tmps.getD 90 undef = .bool p15 := (hF.v 90 85 (by kernel_rfl) (by rw [hsz]; rfl)).trans (dep_at hd 0 85 (is (.bool p15)) (by kernel_rfl) (by kernel_rfl))
          clear hF hd
          simp only [comes]
          go_simp
          first | exact ⟨Ext.refl _, rfl⟩ | exact Ext.refl _
      with_reducible refine xOps_cons ?_ ?_
      · with_reducible refine xop_if 86 91 86 0 ?_ ?_ ?_ ?_ ?_ ?_ ?_
        · rfl
        · kernel_rfl
        · kernel_rfl
        · rw [hsz]; rfl
        · kernel_rfl
        · kernel_rfl
        · intro hp vs x F hF hd
          have e1 : F.tmps.getD 1 undef = .pointer (some ⟨N, 0, none⟩) := (hF.a 1 (by kernel_rfl) (by rw [hsz]; rfl)).trans hA1
          clear hF hd
          simp only [comes]
          go_simp
          first | exact ⟨Ext.refl _, rfl⟩ | exact Ext.refl _
      with_reducible refine xOps_cons ?_ ?_
      · with_reducible refine xop_if 86 91 86 1 ?_ ?_ ?_ ?_ ?_ ?_ ?_
        · rfl
        · kernel_rfl
        · kernel_rfl
        · rw [hsz]; rfl
        · kernel_rfl
        · kernel_rfl
        · intro hp vs x F hF hd
          have e1 : F.tmps.getD 92 undef = .pointer (some ⟨N, 22, none⟩) := (hF.v 92 87 (by kernel_rfl) (by rw [hsz]; rfl)).trans (dep_at hd 0 87 (isIf p15 (.pointer (some ⟨N, 22, none⟩))) (by kernel_rfl) (by kernel_rfl) hp)
          have c : Y.cell? ⟨N, 22, none⟩ = some (.string salt) := HB.out.cell 22 (by simp)
          clear hF hd
          simp only [comes]
          go_simp
          first | exact ⟨Ext.refl _, rfl⟩ | exact Ext.refl _
      with_reducible refine xOps_cons ?_ ?_
      · with_reducible refine xop_if 86 91 86 1 ?_ ?_ ?_ ?_ ?_ ?_ ?_
        · rfl
        · kernel_rfl
        · kernel_rfl
        · rw [hsz]; rfl
        · kernel_rfl
        · kernel_rfl
        · intro hp vs x F hF hd
          have e1 : F.tmps.getD 93 undef = .string salt := (hF.v 93 88 (by kernel_rfl) (by rw [hsz]; rfl)).trans (dep_at hd 0 88 (isIf p15 (.string salt)) (by kernel_rfl) (by kernel_rfl) hp)
          clear hF hd
          simp only [comes]
          go_simp
          first | exact ⟨Ext.refl _, rfl⟩ | exact Ext.refl _
      with_reducible refine xOps_cons ?_ ?_
      · with_reducible refine xop_if 86 91 86 1 ?_ ?_ ?_ ?_ ?_ ?_ ?_
        · rfl
        · kernel_rfl
        · kernel_rfl
        · rw [hsz]; rfl
        · kernel_rfl
        · kernel_rfl
        · intro hp vs x F hF hd
          have e1 : F.tmps.getD 94 undef = .int .i64 (salt.size : Nat) := (hF.v 94 89 (by kernel_rfl) (by rw [hsz]; rfl)).trans (dep_at hd 0 89 (isIf p15 (.int .i64 (salt.size : Nat))) (by kernel_rfl) (by kernel_rfl) hp)
          have q := HQS.out.1
          clear hF hd
          simp only [comes]
          go_simp
          first | exact ⟨Ext.refl _, rfl⟩ | exact Ext.refl _
      with_reducible refine xOps_cons ?_ ?_
      · with_reducible refine xop_un ?_ ?_
        · rfl
        · intro vs x F hF hd
          rw [Hp16.out]
          have e1 : F.tmps.getD 91 undef = .bool p15 := (hF.v 91 86 (by kernel_rfl) (by rw [hsz]; rfl)).trans (dep_at hd 0 86 (is (.bool p15)) (by kernel_rfl) (by kernel_rfl))
          have e2 : p15 = true → F.tmps.getD 95 undef = .bool sB := fun hp => (hF.v 95 90 (by kernel_rfl) (by rw [hsz]; rfl)).trans (dep_at hd 1 90 (isIf p15 (.bool sB)) (by kernel_rfl) (by kernel_rfl) hp)
          clear Hp16
          clear hF hd
          cases p15
          · clear e2
            simp only [comes]
            go_simp
            first | exact ⟨Ext.refl _, rfl⟩ | exact Ext.refl _
          · have e3 := e2 rfl
            clear e2
            simp only [comes]
            go_simp
            first | exact ⟨Ext.refl _, rfl⟩ | exact Ext.refl _
      with_reducible refine xOps_cons ?_ ?_
      · with_reducible refine xop_un ?_ ?_
        · rfl
        · intro vs x F hF hd
          have e1 : F.tmps.getD 96 undef = .bool p16 := (hF.v 96 91 (by kernel_rfl) (by rw [hsz]; rfl)).trans (dep_at hd 0 91 (is (.bool p16)) (by kernel_rfl) (by kernel_rfl))
          clear hF hd
          simp only [comes]
          go_simp
          first | exact ⟨Ext.refl _, rfl⟩ | exact Ext.refl _
      with_reducible refine xOps_cons ?_ ?_
      · with_reducible refine xop_if 92 97 92 0 ?_ ?_ ?_ ?_ ?_ ?_ ?_
        · rfl
        · kernel_rfl
        · kernel_rfl
        · rw [hsz]; rfl
        · kernel_rfl
        · kernel_rfl
        · intro hp vs x F hF hd
          have e1 : F.tmps.getD 1 undef = .pointer (some ⟨N, 0, none⟩) := (hF.a 1 (by kernel_rfl) (by rw [hsz]; rfl)).trans hA1
          clear hF hd
          simp only [comes]
          go_simp
          first | exact ⟨Ext.refl _, rfl⟩ | exact Ext.refl _
      with_reducible refine xOps_cons ?_ ?_
      · with_reducible refine xop_if 92 97 92 1 ?_ ?_ ?_ ?_ ?_ ?_ ?_
        · rfl
        · kernel_rfl
        · kernel_rfl
        · rw [hsz]; rfl
        · kernel_rfl
        · kernel_rfl
        · intro hp vs x F hF hd
          have e1 : F.tmps.getD 98 undef = .pointer (some ⟨N, 23, none⟩) := (hF.v 98 93 (by kernel_rfl) (by rw [hsz]; rfl)).trans (dep_at hd 0 93 (isIf p16 (.pointer (some ⟨N, 23, none⟩))) (by kernel_rfl) (by kernel_rfl) hp)
          have c : Y.cell? ⟨N, 23, none⟩ = some (.string cook) := HB.out.cell 23 (by simp)
          clear hF hd
          simp only [comes]
          go_simp
          first | exact ⟨Ext.refl _, rfl⟩ | exact Ext.refl _
      with_reducible refine xOps_cons ?_ ?_
      · with_reducible refine xop_if 92 97 92 2 ?_ ?_ ?_ ?_ ?_ ?_ ?_
        · rfl
        · kernel_rfl
        · kernel_rfl
        · rw [hsz]; rfl
        · kernel_rfl
        · kernel_rfl
        · intro hp vs x F hF hd
          have e1 : F.tmps.getD 99 undef = .string cook := (hF.v 99 94 (by kernel_rfl) (by rw [hsz]; rfl)).trans (dep_at hd 0 94 (isIf p16 (.string cook)) (by kernel_rfl) (by kernel_rfl) hp)
          clear hF hd
          simp only [comes]
          go_simp
          refine (CT.out _).mono ?_
          rintro e w' ⟨rfl, rfl⟩
          first | exact ⟨_, rfl, Ext.refl _, rfl⟩ | exact ⟨_, rfl, Ext.refl _⟩ | exact ⟨rfl, Ext.refl _⟩ | exact ⟨_, Ext.refl _⟩ | exact Ext.refl _
      with_reducible refine xOps_cons ?_ ?_
      · with_reducible refine xop_un ?_ ?_
        · rfl
        · intro vs x F hF hd
          rw [Hp17.out]
          have e1 : F.tmps.getD 97 undef = .bool p16 := (hF.v 97 92 (by kernel_rfl) (by rw [hsz]; rfl)).trans (dep_at hd 0 92 (is (.bool p16)) (by kernel_rfl) (by kernel_rfl))
          have e2 : p16 = true → F.tmps.getD 100 undef = .bool tk := fun hp => (hF.v 100 95 (by kernel_rfl) (by rw [hsz]; rfl)).trans (dep_at hd 1 95 (isIf p16 (.bool tk)) (by kernel_rfl) (by kernel_rfl) hp)
          clear Hp17
          clear hF hd
          cases p16
          · clear e2
            simp only [comes]
            go_simp
            first | exact ⟨Ext.refl _, rfl⟩ | exact Ext.refl _
          · have e3 := e2 rfl
            clear e2
            simp only [comes]
            go_simp
            first | exact ⟨Ext.refl _, rfl⟩ | exact Ext.refl _
      with_reducible refine xOps_cons ?_ ?_
      · with_reducible refine xop_un ?_ ?_
        · rfl
        · intro vs x F hF hd
          have e1 : F.tmps.getD 101 undef = .bool p17 := (hF.v 101 96 (by kernel_rfl) (by rw [hsz]; rfl)).trans (dep_at hd 0 96 (is (.bool p17)) (by kernel_rfl) (by kernel_rfl))
          clear hF hd
          simp only [comes]
          go_simp
          first | exact ⟨Ext.refl _, rfl⟩ | exact Ext.refl _
      with_reducible refine xOps_cons ?_ ?_
      · with_reducible refine xop_if 97 102 97 0 ?_ ?_ ?_ ?_ ?_ ?_ ?_
        · rfl
        · kernel_rfl
        · kernel_rfl
        · rw [hsz]; rfl
        · kernel_rfl
        · kernel_rfl
        · intro hp vs x F hF hd
          have e1 : F.tmps.getD 1 undef = .pointer (some ⟨N, 0, none⟩) := (hF.a 1 (by kernel_rfl) (by rw [hsz]; rfl)).trans hA1
          clear hF hd
          simp only [comes]
          go_simp
          first | exact ⟨Ext.refl _, rfl⟩ | exact Ext.refl _
      with_reducible refine xOps_cons ?_ ?_
      · with_reducible refine xop_if 97 102 97 1 ?_ ?_ ?_ ?_ ?_ ?_ ?_
        · rfl
        · kernel_rfl
        · kernel_rfl
        · rw [hsz]; rfl
        · kernel_rfl
        · kernel_rfl
        · intro hp vs x F hF hd
          have e1 : F.tmps.getD 103 undef = .pointer (some ⟨N, 23, none⟩) := (hF.v 103 98 (by kernel_rfl) (by rw [hsz]; rfl)).trans (dep_at hd 0 98 (isIf p17 (.pointer (some ⟨N, 23, none⟩))) (by kernel_rfl) (by kernel_rfl) hp)
          have c : Y.cell? ⟨N, 23, none⟩ = some (.string cook) := HB.out.cell 23 (by simp)
          clear hF hd
          simp only [comes]
          go_simp
          first | exact ⟨Ext.refl _, rfl⟩ | exact Ext.refl _
      with_reducible refine xOps_cons ?_ ?_
      · with_reducible refine xop_if 97 102 97 1 ?_ ?_ ?_ ?_ ?_ ?_ ?_
        · rfl
        · kernel_rfl
        · kernel_rfl
        · rw [hsz]; rfl
        · kernel_rfl
        · kernel_rfl
        · intro hp vs x F hF hd
          have e1 : F.tmps.getD 104 undef = .string cook := (hF.v 104 99 (by kernel_rfl) (by rw [hsz]; rfl)).trans (dep_at hd 0 99 (isIf p17 (.string cook)) (by kernel_rfl) (by kernel_rfl) hp)
          clear hF hd
          simp only [comes]
          go_simp
          first | exact ⟨Ext.refl _, rfl⟩ | exact Ext.refl _
      with_reducible refine xOps_cons ?_ ?_
      · with_reducible refine xop_if 97 102 97 1 ?_ ?_ ?_ ?_ ?_ ?_ ?_
        · rfl
        · kernel_rfl
        · kernel_rfl
        · rw [hsz]; rfl
        · kernel_rfl
        · kernel_rfl
        · intro hp vs x F hF hd
          have e1 : F.tmps.getD 105 undef = .int .i64 (cook.size : Nat) := (hF.v 105 100 (by kernel_rfl) (by rw [hsz]; rfl)).trans (dep_at hd 0 100 (isIf p17 (.int .i64 (cook.size : Nat))) (by kernel_rfl) (by kernel_rfl) hp)
          have q := HQS.out.2.1
          clear hF hd
          simp only [comes]
          go_simp
          first | exact ⟨Ext.refl _, rfl⟩ | exact Ext.refl _
      with_reducible refine xOps_cons ?_ ?_
      · with_reducible refine xop_un ?_ ?_
        · rfl
        · intro vs x F hF hd
          rw [Hp18.out]
          have e1 : F.tmps.getD 102 undef = .bool p17 := (hF.v 102 97 (by kernel_rfl) (by rw [hsz]; rfl)).trans (dep_at hd 0 97 (is (.bool p17)) (by kernel_rfl) (by kernel_rfl))
          have e2 : p17 = true → F.tmps.getD 106 undef = .bool cB := fun hp => (hF.v 106 101 (by kernel_rfl) (by rw [hsz]; rfl)).trans (dep_at hd 1 101 (isIf p17 (.bool cB)) (by kernel_rfl) (by kernel_rfl) hp)
          clear Hp18
          clear hF hd
          cases p17
          · clear e2
            simp only [comes]
            go_simp
            first | exact ⟨Ext.refl _, rfl⟩ | exact Ext.refl _
          · have e3 := e2 rfl
            clear e2
            simp only [comes]
            go_simp
            first | exact ⟨Ext.refl _, rfl⟩ | exact Ext.refl _
      with_reducible refine xOps_cons ?_ ?_
      · with_reducible refine xop_un ?_ ?_
        · rfl
        · intro vs x F hF hd
          have e1 : F.tmps.getD 107 undef = .bool p18 := (hF.v 107 102 (by kernel_rfl) (by rw [hsz]; rfl)).trans (dep_at hd 0 102 (is (.bool p18)) (by kernel_rfl) (by kernel_rfl))
          clear hF hd
          simp only [comes]
          go_simp
          first | exact ⟨Ext.refl _, rfl⟩ | exact Ext.refl _
      with_reducible refine xOps_cons ?_ ?_
      · with_reducible refine xop_if 103 108 103 0 ?_ ?_ ?_ ?_ ?_ ?_ ?_
        · rfl
        · kernel_rfl
        · kernel_rfl
        · rw [hsz]; rfl
        · kernel_rfl
        · kernel_rfl
        · intro hp vs x F hF hd
          have e1 : F.tmps.getD 1 undef = .pointer (some ⟨N, 0, none⟩) := (hF.a 1 (by kernel_rfl) (by rw [hsz]; rfl)).trans hA1
          clear hF hd
          simp only [comes]
          go_simp
          first | exact ⟨Ext.refl _, rfl⟩ | exact Ext.refl _
      with_reducible refine xOps_cons ?_ ?_
      · with_reducible refine xop_if 103 108 103 1 ?_ ?_ ?_ ?_ ?_ ?_ ?_
        · rfl
        · kernel_rfl
        · kernel_rfl
        · rw [hsz]; rfl
        · kernel_rfl
        · kernel_rfl
        · intro hp vs x F hF hd
          have e1 : F.tmps.getD 109 undef = .pointer (some ⟨N, 25, none⟩) := (hF.v 109 104 (by kernel_rfl) (by rw [hsz]; rfl)).trans (dep_at hd 0 104 (isIf p18 (.pointer (some ⟨N, 25, none⟩))) (by kernel_rfl) (by kernel_rfl) hp)
          have c : Y.cell? ⟨N, 25, none⟩ = some (.slice iA im ik) := HB.out.cell 25 (by simp)
          clear hF hd
          simp only [comes]
          go_simp
          first | exact ⟨Ext.refl _, rfl⟩ | exact Ext.refl _
      with_reducible refine xOps_cons ?_ ?_
      · with_reducible refine xop_if 103 108 103 1 ?_ ?_ ?_ ?_ ?_ ?_ ?_
        · rfl
        · kernel_rfl
        · kernel_rfl
        · rw [hsz]; rfl
        · kernel_rfl
        · kernel_rfl
        · intro hp vs x F hF hd
          have e1 : F.tmps.getD 110 undef = .slice iA im ik := (hF.v 110 105 (by kernel_rfl) (by rw [hsz]; rfl)).trans (dep_at hd 0 105 (isIf p18 (.slice iA im ik)) (by kernel_rfl) (by kernel_rfl) hp)
          clear hF hd
          simp only [comes]
          go_simp
          first | exact ⟨Ext.refl _, rfl⟩ | exact Ext.refl _
      with_reducible refine xOps_cons ?_ ?_
      · with_reducible refine xop_if 103 108 103 1 ?_ ?_ ?_ ?_ ?_ ?_ ?_
        · rfl
        · kernel_rfl
        · kernel_rfl
        · rw [hsz]; rfl
        · kernel_rfl
        · kernel_rfl
        · intro hp vs x F hF hd
          have e1 : F.tmps.getD 111 undef = .int .i64 (im : Nat) := (hF.v 111 106 (by kernel_rfl) (by rw [hsz]; rfl)).trans (dep_at hd 0 106 (isIf p18 (.int .i64 (im : Nat))) (by kernel_rfl) (by kernel_rfl) hp)
          have q := HQS.out.2.2
          clear hF hd
          simp only [comes]
          go_simp
          first | exact ⟨Ext.refl _, rfl⟩ | exact Ext.refl _
      with_reducible refine xOps_cons ?_ ?_
      · with_reducible refine xop_un ?_ ?_
        · rfl
        · intro vs x F hF hd
          rw [Hp19.out]
          have e1 : F.tmps.getD 108 undef = .bool p18 := (hF.v 108 103 (by kernel_rfl) (by rw [hsz]; rfl)).trans (dep_at hd 0 103 (is (.bool p18)) (by kernel_rfl) (by kernel_rfl))
          have e2 : p18 = true → F.tmps.getD 112 undef = .bool iB := fun hp => (hF.v 112 107 (by kernel_rfl) (by rw [hsz]; rfl)).trans (dep_at hd 1 107 (isIf p18 (.bool iB)) (by kernel_rfl) (by kernel_rfl) hp)
          clear Hp19
          clear hF hd
          cases p18
          · clear e2
            simp only [comes]
            go_simp
            first | exact ⟨Ext.refl _, rfl⟩ | exact Ext.refl _
          · have e3 := e2 rfl
            clear e2
            simp only [comes]
            go_simp
            first | exact ⟨Ext.refl _, rfl⟩ | exact Ext.refl _
      exact xOps_nil
    case hst => exact ⟨is.st _, is.st _, is.st _, is.st _, isIf.st _ _, isIf.st _ _, isIf.st _ _, is.st _, is.st _, isIf.st _ _, isIf.st _ _, isIf.st _ _, is.st _, is.st _, isIf.st _ _, isIf.st _ _, isIf.st _ _, isIf.st _ _, isIf.st _ _, is.st _, is.st _, isIf.st _ _, isIf.st _ _, isIf.st _ _, is.st _, is.st _, isIf.st _ _, isIf.st _ _, isIf.st _ _, is.st _, is.st _, isIf.st _ _, isIf.st _ _, isIf.st _ _, is.st _, is.st _, isIf.st _ _, isIf.st _ _, isIf.st _ _, is.st _, is.st _, isIf.st _ _, isIf.st _ _, isIf.st _ _, is.st _, is.st _, isIf.st _ _, isIf.st _ _, isIf.st _ _, is.st _, is.st _, isIf.st _ _, isIf.st _ _, isIf.st _ _, is.st _, is.st _, isIf.st _ _, isIf.st _ _, isIf.st _ _, is.st _, is.st _, isIf.st _ _, isIf.st _ _, isIf.st _ _, is.st _, is.st _, isIf.st _ _, isIf.st _ _, isIf.st _ _, is.st _, is.st _, isIf.st _ _, isIf.st _ _, isIf.st _ _, is.st _, is.st _, isIf.st _ _, isIf.st _ _, isIf.st _ _, is.st _, is.st _, isIf.st _ _, isIf.st _ _, isIf.st _ _, isIf.st _ _, is.st _, is.st _, isIf.st _ _, isIf.st _ _, isIf.st _ _, isIf.st _ _, is.st _, is.st _, isIf.st _ _, isIf.st _ _, isIf.st _ _, is.st _, is.st _, isIf.st _ _, isIf.st _ _, isIf.st _ _, isIf.st _ _, is.st _, is.st _, isIf.st _ _, isIf.st _ _, isIf.st _ _, isIf.st _ _, is.st _, trivial⟩
    case hfin =>
      intro vs x hf
      have hl : vs 108 = .bool p19 := hf.2.2.2.2.2.2.2.2.2.2.2.2.2.2.2.2.2.2.2.2.2.2.2.2.2.2.2.2.2.2.2.2.2.2.2.2.2.2.2.2.2.2.2.2.2.2.2.2.2.2.2.2.2.2.2.2.2.2.2.2.2.2.2.2.2.2.2.2.2.2.2.2.2.2.2.2.2.2.2.2.2.2.2.2.2.2.2.2.2.2.2.2.2.2.2.2.2.2.2.2.2.2.2.2.2.2.2.2.1
      clear hf
      have hA0 := HA0.out
      subst hA0
      clear hsz hA1
      simp only [List.take_succ_cons, List.take_zero, List.drop_succ_cons, List.drop_zero, putAll, Act.put, List.setIfInBounds_toArray, List.set_cons_succ, List.set_cons_zero, Nat.zero_add, Nat.reduceAdd]
      rw [hl]
      go_wp2
      go_meet
      case rel => exact ⟨by rw [HOK.out], Lib.hid (by repeat (first | exact Ext.refl _ | assumption | apply Ext.plus_ | apply Ext.alloc | apply Ext.drew))⟩
  case rest =>
    clear C0 C1 C2 C3 C4 C5 C6 C7 C8 C9 C10 C11 C12 C13 C14 C15 CP CT hA
    obtain ⟨rfl, hE⟩ := hcut
    have hb := HB.out.ext hE.out
    have p25 := hb.cell 25 (by simp)
    simp only [List.getElem?_cons_zero, List.getElem?_cons_succ] at p25
    have HEE := Lib.hid (HE.out.trans hE.out)
    clear HE hb hE HB HO h1 h2
    have HE := HEE
    clear HEE
    rcases Nat.eq_zero_or_pos im with h0 | h0
    · subst h0
      go_wp2
      obtain ⟨F, hF⟩ : ∃ F : Nat → Bool, F = fun k => ok0 && (ig.take k).all tokB := ⟨_, rfl⟩
      have HF := Lib.hid hF
      go_loop [3, 4] (fun ok i => ∃ k : Nat, k ≤ 0 ∧ i = .int .i64 k ∧ ok = .bool (F k)) (fun _ i => 0 - (intOf i).toNat)
      case atStart => exact ⟨0, Nat.zero_le _, rfl, by simp [hF]⟩
      case round =>
        clear hF
        obtain ⟨k, hk, rfl, rfl⟩ := hrel
        by_cases hlt : k < 0
        · exact absurd hlt (by omega)
        · obtain rfl : k = 0 := by omega
          have HZ : Hid (F 0 = (ok0 && ig.all tokB)) := by
            refine Lib.hid ?_
            rw [HF.out]
            simp only
            rw [List.take_of_length_le (by have := HL.out; omega)]
          obtain ⟨fk, hfk⟩ : ∃ b, b = F 0 := ⟨_, rfl⟩
          rw [← hfk] at HZ ⊢
          clear hfk HF
          cases fk
          · go_upto_region 7 with fail
            refine wp_assign_const ?_
            refine ‹∀ (a : Act) (w : World), Code.wp _ Code.ret _ a w → _› _ _ ?_
            refine wp_ret_then ?_
            refine bodyPost_ret (results_slot (v := .int .i64 8) Try.results9 rfl) rfl ?_
            refine ⟨?_, HE.out⟩
            rw [← HZ.out]
            simp
          · go_upto_region 8 with fail
            refine wp_assign_const ?_
            refine ‹∀ (a : Act) (w : World), Code.wp _ Code.ret _ a w → _› _ _ ?_
            refine wp_ret ?_
            refine bodyPost_ret (results_slot (v := .int .i64 0) Try.results9 rfl) rfl ?_
            refine ⟨?_, HE.out⟩
            rw [← HZ.out]
            simp
    · obtain ⟨b, o, _, rfl, _, _, _⟩ := strs_at HR.out h0
      go_wp2
      obtain ⟨F, hF⟩ : ∃ F : Nat → Bool, F = fun k => ok0 && (ig.take k).all tokB := ⟨_, rfl⟩
      have HF := Lib.hid hF
      go_loop [3, 4] (fun ok i => ∃ k : Nat, k ≤ im ∧ i = .int .i64 k ∧ ok = .bool (F k)) (fun _ i => im - (intOf i).toNat)
      case atStart => exact ⟨0, Nat.zero_le _, rfl, by simp [hF]⟩
      case round =>
        clear hF
        obtain ⟨k, hk, rfl, rfl⟩ := hrel
        by_cases hlt : k < im
        · obtain ⟨b9, o9, s, hA, hb, hz, hcell⟩ := strs_at HR.out hlt
          have e0 : b = b9 ∧ o = o9 := by injection hA with hA; injection hA with h1 h2; exact ⟨h1, h2⟩
          obtain ⟨rfl, rfl⟩ := e0
          have hsz := HS.out s (List.mem_of_getElem? hz)
          have CS := Lib.hid (fun w => refToken_any s hsz w)
          obtain ⟨ts, hts⟩ : ∃ b, b = tokB s := ⟨_, rfl⟩
          rw [← hts] at CS
          have HN : Hid (F (k + 1) = (F k && ts)) := by
            refine Lib.hid ?_
            rw [HF.out]
            simp only
            rw [List.take_add_one, List.all_append, hz, ← Bool.and_assoc, hts]
            simp
          obtain ⟨fk, hfk⟩ : ∃ b, b = F k := ⟨_, rfl⟩
          rw [← hfk] at HN ⊢
          have hc := HE.out.cell hcell
          clear hA hz hsz hts hcell hfk
          cases fk
          · go_wp2
            go_round
            case rel => exact ⟨k + 1, hlt, by go_num, by rw [HN.out]; rfl⟩
            case measure => simp [intOf]; omega
          · go_wp2_with fail
            refine (CS.out _).mono ?_
            rintro e w' ⟨rfl, rfl⟩
            go_wp2
            go_round
            case rel => exact ⟨k + 1, hlt, by go_num, by rw [HN.out]; simp⟩
            case measure => simp [intOf]; omega
        · obtain rfl : k = im := by omega
          have HZ : Hid (F k = (ok0 && ig.all tokB)) := by
            refine Lib.hid ?_
            rw [HF.out]
            simp only
            rw [List.take_of_length_le (by have := HL.out; omega)]
          obtain ⟨fk, hfk⟩ : ∃ b, b = F k := ⟨_, rfl⟩
          rw [← hfk] at HZ ⊢
          clear hfk HF
          cases fk
          · go_upto_region 7 with fail
            refine wp_assign_const ?_
            refine ‹∀ (a : Act) (w : World), Code.wp _ Code.ret _ a w → _› _ _ ?_
            refine wp_ret_then ?_
            refine bodyPost_ret (results_slot (v := .int .i64 8) Try.results9 rfl) rfl ?_
            refine ⟨?_, HE.out⟩
            rw [← HZ.out]
            simp
          · go_upto_region 8 with fail
            refine wp_assign_const ?_
            refine ‹∀ (a : Act) (w : World), Code.wp _ Code.ret _ a w → _› _ _ ?_
            refine wp_ret ?_
            refine bodyPost_ret (results_slot (v := .int .i64 0) Try.results9 rfl) rfl ?_
            refine ⟨?_, HE.out⟩
            rw [← HZ.out]
            simp
end Go.Proofs.Ytlcopiepcpangaa
