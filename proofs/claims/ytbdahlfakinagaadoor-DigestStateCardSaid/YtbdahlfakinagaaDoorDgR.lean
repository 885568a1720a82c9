/- The reference's Of. -/
import Derived.Test.YtbdahlfakinagaaDoorDgO
set_option linter.unusedVariables false
namespace Go.Proofs.YtbdahlfakinagaaDoor
open Go.RowKit Go.Rg

/-- What lies in memory in Of's third loop. -/
structure RoR (w : World) (B : Nat) (s : List W32) (A : Option Addr) (L : Nat) (mm : List Int) (wr : World) : Prop where
  box : Box 0 (s.map bw) B wr
  row : Row wr wr.heap.size 1 A L (bytes mm)
  apart : ∀ a, A = some a → a.block < B
  ext : Ext w wr
theorem RoR.ext' {w : World} {B : Nat} {s : List W32} {A : Option Addr} {L : Nat} {mm : List Int} {wr w2 : World} (h : RoR w B s A L mm wr) (e : Ext wr w2) : RoR w B s A L mm w2 := ⟨h.box.ext e, h.row.lift e, h.apart, h.ext.trans e⟩
theorem RoR.stb {w : World} {B : Nat} {s s' : List W32} {A : Option Addr} {L : Nat} {mm : List Int} {wr w2 : World} (h : RoR w B s A L mm wr) (k : StB B wr w2) (hb : Box 0 (s'.map bw) B w2) (hw : w.heap.size ≤ B) : RoR w B s' A L mm w2 := by
  have hr := k.row h.row (fun a ha => Nat.ne_of_lt (h.apart a ha))
  rw [← k.size] at hr
  exact ⟨hb, hr, h.apart, k.ext _ h.ext hw⟩
theorem own_lt {w : World} {base n n' c : Nat} {a : Addr} {e : TypeId} {xs : List Value} (h : w.ownsRow base e 1 (.slice (some a) n' c) n xs) : a.block < w.heap.size := by
  rcases h.2 with ⟨h1, _⟩ | ⟨g, cap, cur, h1, hb, hg, _⟩
  · cases h1
  · injection h1 with h1
    injection h1 with h1
    rw [h1]
    exact (Array.getElem?_eq_some_iff.1 hg).1
set_option maxRecDepth 100000 in
set_option maxHeartbeats 16000000 in
theorem refOf_core (D : Option Addr) (k d : Nat) (bl : List Int) (w : World) (hB : BS w (.slice D k d) bl) (hb : By bl) (hl : bl.length ≤ 549755813888) :
    Calls Tryd.prog 11 #[.slice D k d] w fun e w' => ∃ u, e = .returned u ∧ w'.ownsRow w.heap.size 5 1 u 32 (bytes (shaOf bl)) ∧ Ext w w' := by
  obtain ⟨hrow, hkd, hdm, hnil, hkl⟩ := hB.at_
  obtain ⟨i0, hi, hz0, hz1, hz2⟩ := info_parts Tryd.infoByte
  have HA := Lib.hid (And.intro hrow (And.intro hb hkl))
  have hkb : k ≤ 549755813888 := by omega
  clear hrow hb hkl hl hB hnil
  go_enter Tryd.func11, Tryd.ntmps11
  go_upto_region 1 with fail
  go_wp2_with (with_reducible show wpList _ _ _ (⟨some 12, _, _, _, _, _⟩ :: _) _ _; refine Lock.out ?_)
  refine ⟨?_, trivial⟩
  refine wl_at fun Y hY => ?_
  obtain ⟨O, hOe⟩ : ∃ O, O = w.heap.size := ⟨_, rfl⟩
  have hE0 : Y.ownsRow O 5 1 (.slice (some ⟨O, 0, none⟩) 0 0) 0 [] := by
    rw [hY, hOe]
    exact own_empty _ _ _ (Nat.le_refl _)
  have hE : Ext w Y := by
    rw [hY]
    repeat' (first | with_reducible assumption | with_reducible exact Ext.refl _ | with_reducible apply Ext.alloc | with_reducible apply Ext.drew | with_reducible apply Ext.drewN | with_reducible apply Ext.plus_ | with_reducible refine Ext.put ?_ (by omega))
  have hS : O ≤ Y.heap.size := by
    rw [hY, hOe]
    simp
  have hwO : w.heap.size ≤ O := by omega
  have HO := Lib.hid hOe
  rw [← hOe]
  clear hY hOe
  refine wpList_app _ rfl (.tmp 10) (.tmp 11) 22 rfl _ _ rfl rfl (app_empty _ O 22 _ 5 i0 (.int .u8 0) 1 Tryd.underlying22 hi hz0 hz1 hz2 rfl _ hE0 _ _ _ _ (bytes bl) (HA.out.1.lift hE) (bytes_one _) (by unfold maxLen; omega) (by omega) hS) ?_
  rintro v' W2 ⟨hown, hE2⟩
  obtain ⟨A3, c3, rfl, hle3, hm3⟩ := own_form hown
  have HS : Hid (SmR w O (.slice A3 k c3) bl W2) := Lib.hid ⟨by rw [HA.out.2.2]; exact hown, hE.trans hE2, Nat.le_trans hS hE2.size⟩
  clear hown hE hE2 hS hE0
  go_upto_region 2 with fail
  go_wp2_with (with_reducible show wpList _ _ _ (⟨some 15, _, _, _, _, _⟩ :: _) _ _; refine Lock.out ?_)
  refine ⟨?_, trivial⟩
  refine wl_at fun Y hY => ?_
  obtain ⟨V, hVe⟩ : ∃ V, V = W2.heap.size := ⟨_, rfl⟩
  have hs2 : SmR w O (.slice A3 k c3) bl Y := by
    rw [hY]
    exact SmR.ext' HS.out (by repeat (first | exact Ext.refl _ | assumption | apply Ext.plus_ | apply Ext.alloc | apply Ext.drew))
  have hb2 : Box 0 [.int .u8 128] V Y := by
    rw [hY, hVe]
    repeat' (first | with_reducible assumption | ((with_reducible refine Box.fresh ?fb ?fn ?fr); (case fb => first | omega | (simp <;> omega)); (case fn => first | omega | (simp <;> omega)); (case fr => rfl)) | with_reducible apply Box.up | with_reducible apply Box.drew_ | with_reducible apply Box.drewN_ | with_reducible apply Box.plus_ | with_reducible apply Box.put | with_reducible refine Box.off ?_ (by omega))
    all_goals first | rfl | (simp; done)
  rw [← hVe]
  clear hY hVe HS
  have hbl := HA.out.2.2
  refine wpList_app _ rfl (.tmp 13) (.tmp 14) 22 rfl _ _ rfl rfl (app_own _ O 22 _ 5 i0 (.int .u8 0) 1 Tryd.underlying22 hi hz0 hz1 hz2 rfl _ _ _ hs2.own _ _ _ _ (bytes [128]) (Row.ofBox hb2) (bytes_one _) (by unfold maxLen; rw [hbl]; omega) (by rw [hbl]; omega) hs2.size) ?_
  rintro v' W3 ha
  have HS2 := Lib.hid (hs2.apped (nw' := [128]) rfl ha hwO)
  obtain ⟨A4, c4, hv4, hle4, hm4⟩ := own_form HS2.out.own
  have hl4 : (bl ++ [128]).length = k + 1 := by rw [List.length_append, hbl]; rfl
  rw [hl4] at hv4 hle4
  subst hv4
  obtain ⟨Zn, hZe⟩ : ∃ Z, Z = padZ k := ⟨_, rfl⟩
  have hZ64 : Zn < 64 := by rw [hZe, padZ]; omega
  have HZ := Lib.hid hZe
  replace HS2 : Hid (SmR w O (.slice A4 (k + 1) c4) (bl ++ (128 :: List.replicate 0 0)) W3) := HS2
  clear hs2 hb2 ha hle3 hm3 hZe hbl hl4
  go_wp2
  go_loopw [3] (fun v3 wr => ∃ (z L : Nat) (A : Option Addr) (c : Nat), z ≤ Zn ∧ v3 = .slice A L c ∧ Hid (L = k + 1 + z ∧ SmR w O (.slice A L c) (bl ++ (128 :: List.replicate z 0)) wr)) (fun v3 _ => k + Zn + 2 - lenOf v3)
  case atStart => exact ⟨0, k + 1, A4, c4, Nat.zero_le _, rfl, Lib.hid ⟨rfl, HS2.out⟩⟩
  case round =>
    clear HS2
    obtain ⟨z, L, A3, c3, hz, rfl, HS0⟩ := hrel
    obtain ⟨hL, hs0⟩ := HS0.out
    have HL := Lib.hid hL
    have HS := Lib.hid hs0
    have hLb : L ≤ 549755813960 := by omega
    have hll : (bl ++ (128 :: List.replicate z (0 : Int))).length = L := by rw [List.length_append, HA.out.2.2, hL]; simp; omega
    have HLL := Lib.hid hll
    clear HS0 hs0
    by_cases hlt : z < Zn
    · have hd : ((L : Int) % 64 != 56) = true := by
        have := HZ.out
        unfold padZ at this
        rw [bne_iff_ne]
        omega
      have hms : k + Zn + 2 - (L + 1) < k + Zn + 2 - L := by omega
      clear hL hll
      go_upto_region 4 with fail
      go_wp2_with (with_reducible show wpList _ _ _ (⟨some 22, _, _, _, _, _⟩ :: _) _ _; refine Lock.out ?_)
      refine ⟨?_, trivial⟩
      refine wl_at fun Y hY => ?_
      obtain ⟨V, hVe⟩ : ∃ V, V = wr.heap.size := ⟨_, rfl⟩
      have hs2 : SmR w O (.slice A3 L c3) (bl ++ (128 :: List.replicate z 0)) Y := by
        rw [hY]
        exact SmR.ext' HS.out (by repeat (first | exact Ext.refl _ | assumption | apply Ext.plus_ | apply Ext.alloc | apply Ext.drew))
      have hb2 : Box 0 [.int .u8 0] V Y := by
        rw [hY, hVe]
        repeat' (first | with_reducible assumption | ((with_reducible refine Box.fresh ?fb ?fn ?fr); (case fb => first | omega | (simp <;> omega)); (case fn => first | omega | (simp <;> omega)); (case fr => rfl)) | with_reducible apply Box.up | with_reducible apply Box.drew_ | with_reducible apply Box.drewN_ | with_reducible apply Box.plus_ | with_reducible apply Box.put | with_reducible refine Box.off ?_ (by omega))
        all_goals first | rfl | (simp; done)
      rw [← hVe]
      clear hY hVe HS
      have hll := HLL.out
      refine wpList_app _ rfl (.tmp 20) (.tmp 21) 22 rfl _ _ rfl rfl (app_own _ O 22 _ 5 i0 (.int .u8 0) 1 Tryd.underlying22 hi hz0 hz1 hz2 rfl _ _ _ hs2.own _ _ _ _ (bytes [0]) (Row.ofBox hb2) (bytes_one _) (by unfold maxLen; rw [hll]; omega) (by rw [hll]; omega) hs2.size) ?_
      rintro v' W4 ha
      have HS2 := Lib.hid (hs2.apped (nw' := [0]) rfl ha hwO)
      have hl5 : (bl ++ (128 :: List.replicate z (0 : Int))) ++ [0] = bl ++ (128 :: List.replicate (z + 1) 0) := by
        rw [List.append_assoc, List.cons_append, List.replicate_succ']
      rw [hl5] at HS2
      obtain ⟨A5, c5, hv5, _, _⟩ := own_form HS2.out.own
      have hl6 : (bl ++ (128 :: List.replicate (z + 1) (0 : Int))).length = L + 1 := by
        rw [← hl5, List.length_append, hll]
        rfl
      rw [hl6] at hv5
      subst hv5
      clear hs2 hb2 ha hl5 hll hl6
      go_wp2
      go_roundw
      case rel => exact ⟨z + 1, L + 1, A5, c5, hlt, rfl, Lib.hid ⟨by have := HL.out; omega, HS2.out⟩⟩
      case measure => simp only [lenOf]; exact hms
    · obtain rfl : z = Zn := by omega
      have hd : ((L : Int) % 64 != 56) = false := by
        have := HZ.out
        unfold padZ at this
        rw [bne_eq_false_iff_eq]
        omega
      have hL56 : L % 64 = 56 := by
        have := HZ.out
        unfold padZ at this
        omega
      clear hlt hz hL hll
      go_upto_region 6 with fail
      refine wp_at fun Y hY => ?_
      rw [← hY] at HS
      clear hY hd
      obtain ⟨p0, hp0⟩ : ∃ p0, p0 = bl ++ (128 :: List.replicate z (0 : Int)) := ⟨_, rfl⟩
      have hp0l : p0.length = L := by rw [hp0]; exact HLL.out
      rw [← hp0] at HS
      have HP := Lib.hid (And.intro hp0 hp0l)
      clear hp0 hp0l HLL
      go_wp2
      go_loopw [3, 5] (fun v3 v5 wr => ∃ (i M : Nat) (A : Option Addr) (c : Nat), i ≤ 8 ∧ v3 = .slice A M c ∧ v5 = .int .i64 (7 - (i : Int)) ∧ Hid (M = L + i ∧ SmR w O (.slice A M c) (p0 ++ (lenB k).take i) wr)) (fun v3 _ _ => L + 9 - lenOf v3)
      case atStart => exact ⟨0, L, A3, c3, Nat.zero_le _, rfl, rfl, Lib.hid ⟨rfl, by rw [List.take_zero, List.append_nil]; exact HS.out⟩⟩
      case round =>
        clear HS
        obtain ⟨i, M, A3, c3, hi8, rfl, rfl, HS0⟩ := hrel
        obtain ⟨hM, hs0⟩ := HS0.out
        have hll : (p0 ++ (lenB k).take i).length = M := by
          rw [List.length_append, HP.out.2, List.length_take, hM]
          have : (lenB k).length = 8 := by simp [lenB]
          omega
        have HL2 := Lib.hid (And.intro hM hll)
        have HS := Lib.hid hs0
        have hMb : M ≤ 549755813970 := by omega
        by_cases hlt : i < 8
        · obtain ⟨i7, hi7⟩ : ∃ i7, i7 = 7 - i := ⟨_, rfl⟩
          have e1 : (7 - (i : Int)) = (i7 : Int) := by omega
          have e2 : (i7 : Int) - 1 = 7 - ((i + 1 : Nat) : Int) := by omega
          have h0 : (0 : Int) ≤ (i7 : Int) := by omega
          have h7 : (i7 : Int) ≤ 7 := by omega
          have h56 : (8 : Int) * (i7 : Int) ≤ 64 := by omega
          have h00 : (0 : Int) ≤ 8 * (i7 : Int) := by omega
          have hms : L + 9 - (M + 1) < L + 9 - M := by omega
          rw [e1]
          have HE := Lib.hid (And.intro hi7 e2)
          clear hi7 e1 e2 hM hll HS0 hs0
          go_upto_region 9 with fail
          go_wp2_with (with_reducible show wpList _ _ _ (⟨some 37, _, _, _, _, _⟩ :: _) _ _; refine Lock.out ?_)
          refine ⟨?_, trivial⟩
          refine wl_at fun Y hY => ?_
          obtain ⟨V, hVe⟩ : ∃ V, V = wr.heap.size := ⟨_, rfl⟩
          obtain ⟨bt, hbt⟩ : ∃ bt : Int, bt = ((8 * k / 2 ^ (56 - 8 * i) % 256 : Nat) : Int) := ⟨_, rfl⟩
          have hs2 : SmR w O (.slice A3 M c3) (p0 ++ (lenB k).take i) Y := by
            rw [hY]
            exact SmR.ext' HS.out (by repeat (first | exact Ext.refl _ | assumption | apply Ext.plus_ | apply Ext.alloc | apply Ext.drew))
          have hb2 : Box 0 [.int .u8 bt] V Y := by
            have e0 : 8 * i7 = 56 - 8 * i := by have := HE.out.1; omega
            have e : (8 : Int) * (k : Int) / 2 ^ (8 * i7) % 256 = bt := by rw [hbt, e0]; simp
            rw [hY, hVe, e]
            repeat' (first | with_reducible assumption | ((with_reducible refine Box.fresh ?fb ?fn ?fr); (case fb => first | omega | (simp <;> omega)); (case fn => first | omega | (simp <;> omega)); (case fr => rfl)) | with_reducible apply Box.up | with_reducible apply Box.drew_ | with_reducible apply Box.drewN_ | with_reducible apply Box.plus_ | with_reducible apply Box.put | with_reducible refine Box.off ?_ (by omega))
            all_goals first | rfl | (simp; done)
          rw [← hVe]
          have HBT := Lib.hid hbt
          clear hY hVe HS hbt
          have hll := HL2.out.2
          refine wpList_app _ rfl (.tmp 30) (.tmp 36) 22 rfl _ _ rfl rfl (app_own _ O 22 _ 5 i0 (.int .u8 0) 1 Tryd.underlying22 hi hz0 hz1 hz2 rfl _ _ _ hs2.own _ _ _ _ (bytes [bt]) (Row.ofBox hb2) (bytes_one _) (by unfold maxLen; rw [hll]; omega) (by rw [hll]; omega) hs2.size) ?_
          rintro v' W4 ha
          have HS2 := Lib.hid (hs2.apped (nw' := [bt]) rfl ha hwO)
          have hl5 : (p0 ++ (lenB k).take i) ++ [bt] = p0 ++ (lenB k).take (i + 1) := by
            rw [List.take_add_one, lenB_at k hlt, ← HBT.out, List.append_assoc]
            rfl
          rw [hl5] at HS2
          obtain ⟨A5, c5, hv5, _, _⟩ := own_form HS2.out.own
          have hl6 : (p0 ++ (lenB k).take (i + 1)).length = M + 1 := by
            rw [← hl5, List.length_append, hll]
            rfl
          rw [hl6] at hv5
          subst hv5
          clear hs2 hb2 ha hl5 hll hl6
          go_wp2
          go_roundw
          case rel => exact ⟨i + 1, M + 1, A5, c5, hlt, rfl, by rw [← HE.out.2], Lib.hid ⟨by have := HL2.out.1; omega, HS2.out⟩⟩
          case measure => simp only [lenOf]; exact hms
        · obtain rfl : i = 8 := by omega
          obtain ⟨mm, hmm⟩ : ∃ mm, mm = p0 ++ lenB k := ⟨_, rfl⟩
          have hall : p0 ++ (lenB k).take 8 = mm := by rw [List.take_of_length_le (by simp [lenB]), hmm]
          rw [hall] at HS hll
          have hM64 : M % 64 = 0 := by omega
          have HM := Lib.hid (And.intro hmm (And.intro hll hM))
          clear hlt hi8 hall hmm hll hM HL2 HS0 hs0
          go_upto_region 10 with fail
          go_wp2_with (with_reducible show wpList _ _ _ (⟨some 38, _, _, _, _, _⟩ :: _) _ _; refine Lock.out ?_)
          refine ⟨?_, trivial⟩
          refine wl_at fun Y hY => ?_
          rw [← hY] at HS
          clear hY
          go_wp2_with fail
          refine (initial_any _).mono ?_
          rintro e Y2 ⟨rfl, hE⟩
          replace HS := Lib.hid (SmR.ext' HS.out hE)
          clear hE
          go_wp2_with (with_reducible show wpList _ _ _ (⟨none, _, _, _, _, _⟩ :: _) _ _; refine Lock.out ?_)
          refine ⟨?_, trivial⟩
          refine wl_at fun Z hZ => ?_
          obtain ⟨B, hBe⟩ : ∃ B, B = Y2.heap.size := ⟨_, rfl⟩
          have hB0 : Box 0 (zero8.map bw) B Z := by
            rw [hZ, hBe]
            repeat' (first | with_reducible assumption | ((with_reducible refine Box.fresh ?fb ?fn ?fr); (case fb => first | omega | (simp <;> omega)); (case fn => first | omega | (simp <;> omega)); (case fr => rfl)) | with_reducible apply Box.up | with_reducible apply Box.drew_ | with_reducible apply Box.drewN_ | with_reducible apply Box.plus_ | with_reducible apply Box.put | with_reducible refine Box.off ?_ (by omega))
            all_goals first | rfl | (simp; done)
          have hE1 : Ext Y2 Z := by
            rw [hZ]
            repeat' (first | with_reducible assumption | with_reducible exact Ext.refl _ | with_reducible apply Ext.alloc | with_reducible apply Ext.drew | with_reducible apply Ext.drewN | with_reducible apply Ext.plus_ | with_reducible refine Ext.put ?_ (by omega))
          have hBl : Y2.heap.size ≤ B := by omega
          rw [← hBe]
          clear hZ hBe
          refine wl_store rfl 32 (.tmp 6) (.tmp 38) rfl hB0 (IL.map bw) rfl rfl rfl (by kernel_rfl) (one_cells _) fun W hW hx => ?_
          have hwB : w.heap.size ≤ B := Nat.le_trans HS.out.ext.size hBl
          have hE2 := hx.ext _ hE1 hBl
          have hAp : ∀ a, A3 = some a → a.block < B := fun a ha => by
            subst ha
            exact Nat.lt_of_lt_of_le (own_lt HS.out.own) hBl
          have hrow : Row Y2 Y2.heap.size 1 A3 M (bytes mm) := own_row (by have := HS.out.own; rw [HM.out.2.1] at this; exact this)
          obtain ⟨hc3, hc3m⟩ := own_bd (by have := HS.out.own; rw [HM.out.2.1] at this; exact this)
          have hRS : Hid (RoR w B (run IL mm 0) A3 M mm W) := Lib.hid ⟨hW, hrow.lift hE2, hAp, HS.out.ext.trans hE2⟩
          have hbm : By mm := by
            rw [HM.out.1, HP.out.1]
            have h1 : By ([128] : List Int) := fun x hx => by simp at hx; subst hx; decide
            exact (HA.out.2.1.append (h1.append (by_zero z))).append (by_lenB k)
          have HBM := Lib.hid hbm
          clear hB0 hE1 hBl hx hE2 hW hAp hrow HS hbm Z
          go_wp2
          go_loopw [7] (fun v7 wr => ∃ q j : Nat, j ≤ M ∧ v7 = nw j ∧ Hid (j = 64 * q ∧ RoR w B (run IL mm q) A3 M mm wr)) (fun v7 _ => M - (intOf v7).toNat)
          case atStart => exact ⟨0, 0, Nat.zero_le _, rfl, Lib.hid ⟨rfl, hRS.out⟩⟩
          case round =>
            clear hRS
            obtain ⟨q, j, hj, rfl, HS0⟩ := hrel
            obtain ⟨hjq, hs0⟩ := HS0.out
            have HJ := Lib.hid hjq
            obtain ⟨st, hst⟩ : ∃ st, st = run IL mm q := ⟨_, rfl⟩
            rw [← hst] at hs0
            obtain ⟨y0, y1, y2, y3, y4, y5, y6, y7, rfl⟩ := list8 (show st.length = 8 by rw [hst]; exact run_len mm rfl q)
            have HS := Lib.hid hs0
            have HST := Lib.hid hst
            by_cases hlt : j < M
            · have h64 : j + 64 ≤ M := by omega
              clear HS0 hjq hs0 hst
              have hli : (j : Int) < (M : Int) := by omega
              obtain ⟨g, o, rfl, hgw, hcell⟩ := HS.out.row.2 (by omega)
              obtain ⟨bb, hbb⟩ : ∃ bb, bb = (mm.drop j).take 64 := ⟨_, rfl⟩
              have hby : By bb := by rw [hbb]; exact (HBM.out.drop j).take 64
              have hbl : bb.length = 64 := by rw [hbb, List.length_take, List.length_drop, HM.out.2.1]; omega
              have hba : BytesAt g (o + j) 64 bb wr := bytesAt_of (fun i u hu => by
                rw [hbb, bytes, List.map_take, List.map_drop, List.getElem?_take] at hu
                split at hu
                · rw [List.getElem?_drop] at hu
                  have := hcell (j + i) u hu
                  rw [Nat.add_assoc]
                  exact this
                · cases hu) hbl hby
              have HC := Lib.hid (And.intro hbb hba)
              have hqd : j + 64 ≤ c3 := by omega
              have hqd2 : j < c3 := by omega
              clear hcell hbb hby hbl hba
              go_upto_region 14 with fail
              refine wp_at fun Y hY => ?_
              rw [← hY] at HS
              have hgl : g < Y.heap.size := by rw [hY]; exact hgw
              have hba := HC.out.2
              rw [← hY] at hba
              have HBA := Lib.hid hba
              clear hY hba
              refine act_at fun A0 hAq => ?_
              have hsz : A0.tmps.size = 79 := by
                rw [hAq]
                rfl
              have hA3 : A0.tmps.getD 3 undef = .slice (some ⟨g, o, none⟩) M c3 := by
                rw [hAq]
                first | rfl | kernel_rfl
              have hA6 : A0.tmps.getD 6 undef = .pointer (some ⟨B, 0, none⟩) := by
                rw [hAq]
                first | rfl | kernel_rfl
              have hA7 : A0.tmps.getD 7 undef = nw (j) := by
                rw [hAq]
                first | rfl | kernel_rfl
              have HAq := Lib.hid hAq
              clear hAq
              apply wp_region_ext 7 [is (.agg #[bw y0, bw y1, bw y2, bw y3, bw y4, bw y5, bw y6, bw y7]), is (.slice (some ⟨g, o, none⟩) M c3), is (nw (j)), is (nw (j)), is (nw (j + 64)), is (.slice (some ⟨g, o + j, none⟩) 64 (c3 - j)), is (wv (blk [y0, y1, y2, y3, y4, y5, y6, y7] bb))] (by kernel_rfl) (by kernel_rfl) rfl
              case hops =>
                simp only [List.take_succ_cons, List.take_zero]
                with_reducible refine xOps_cons ?_ ?_
                · with_reducible refine xop_un ?_ ?_
                  · rfl
                  · intro vs x F hF hd
                    have e1 : F.tmps.getD 6 undef = .pointer (some ⟨B, 0, none⟩) := (hF.a 6 (by kernel_rfl) (by rw [hsz]; rfl)).trans hA6
                    exact comes_load_box 32 (.tmp 6) rfl (HS.out.box.ext (by repeat (first | exact Ext.refl _ | assumption | apply Ext.plus_ | apply Ext.alloc | apply Ext.drew))) e1 Tryd.underlying32 rfl (by kernel_rfl)
                with_reducible refine xOps_cons ?_ ?_
                · with_reducible refine xop_un ?_ ?_
                  · rfl
                  · intro vs x F hF hd
                    have e1 : F.tmps.getD 3 undef = .slice (some ⟨g, o, none⟩) M c3 := (hF.a 3 (by kernel_rfl) (by rw [hsz]; rfl)).trans hA3
                    exact m_v e1
                with_reducible refine xOps_cons ?_ ?_
                · with_reducible refine xop_un ?_ ?_
                  · rfl
                  · intro vs x F hF hd
                    have e1 : F.tmps.getD 7 undef = nw (j) := (hF.a 7 (by kernel_rfl) (by rw [hsz]; rfl)).trans hA7
                    exact m_v e1
                with_reducible refine xOps_cons ?_ ?_
                · with_reducible refine xop_un ?_ ?_
                  · rfl
                  · intro vs x F hF hd
                    have e1 : F.tmps.getD 7 undef = nw (j) := (hF.a 7 (by kernel_rfl) (by rw [hsz]; rfl)).trans hA7
                    exact m_v e1
                with_reducible refine xOps_cons ?_ ?_
                · with_reducible refine xop_un ?_ ?_
                  · rfl
                  · intro vs x F hF hd
                    have e1 : F.tmps.getD 48 undef = nw (j) := (hF.v 48 3 (by kernel_rfl) (by rw [hsz]; rfl)).trans (dep_at hd 0 3 (is (nw (j))) (by kernel_rfl) (by kernel_rfl))
                    exact n_add e1 rfl (by omega)
                with_reducible refine xOps_cons ?_ ?_
                · with_reducible refine xop_un ?_ ?_
                  · rfl
                  · intro vs x F hF hd
                    have e1 : F.tmps.getD 46 undef = .slice (some ⟨g, o, none⟩) M c3 := (hF.v 46 1 (by kernel_rfl) (by rw [hsz]; rfl)).trans (dep_at hd 0 1 (is (.slice (some ⟨g, o, none⟩) M c3)) (by kernel_rfl) (by kernel_rfl))
                    have e2 : F.tmps.getD 47 undef = nw (j) := (hF.v 47 2 (by kernel_rfl) (by rw [hsz]; rfl)).trans (dep_at hd 1 2 (is (nw (j))) (by kernel_rfl) (by kernel_rfl))
                    have e3 : F.tmps.getD 49 undef = nw (j + 64) := (hF.v 49 4 (by kernel_rfl) (by rw [hsz]; rfl)).trans (dep_at hd 2 4 (is (nw (j + 64))) (by kernel_rfl) (by kernel_rfl))
                    exact comes_mid (p := j) (q := 64) (.tmp 46) (.tmp 47) (.tmp 49) rfl Tryd.underlying22 hi hz1 e1 e2 e3 hqd hqd2
                with_reducible refine xOps_cons ?_ ?_
                · with_reducible refine xop_un ?_ ?_
                  · rfl
                  · intro vs x F hF hd
                    have e45 : F.tmps.getD 45 undef = .agg #[bw y0, bw y1, bw y2, bw y3, bw y4, bw y5, bw y6, bw y7] := (hF.v 45 0 (by kernel_rfl) (by rw [hsz]; rfl)).trans (dep_at hd 0 0 (is (.agg #[bw y0, bw y1, bw y2, bw y3, bw y4, bw y5, bw y6, bw y7])) (by kernel_rfl) (by kernel_rfl))
                    have e50 : F.tmps.getD 50 undef = .slice (some ⟨g, o + j, none⟩) 64 (c3 - j) := (hF.v 50 5 (by kernel_rfl) (by rw [hsz]; rfl)).trans (dep_at hd 1 5 (is (.slice (some ⟨g, o + j, none⟩) 64 (c3 - j))) (by kernel_rfl) (by kernel_rfl))
                    clear hF hd
                    simp only [comes]
                    go_simp
                    refine (refBlock_core y0 y1 y2 y3 y4 y5 y6 y7 g (o + j) (c3 - j) bb _ (HBA.out.ext (by repeat (first | exact Ext.refl _ | assumption | apply Ext.plus_ | apply Ext.alloc | apply Ext.drew))) (Nat.lt_of_lt_of_le hgl (show Ext Y (Y.plus x) from (by repeat (first | exact Ext.refl _ | assumption | apply Ext.plus_ | apply Ext.alloc | apply Ext.drew))).size)).mono ?_
                    rintro e w' ⟨rfl, hE⟩
                    first | exact ⟨_, rfl, hE, rfl⟩ | exact ⟨_, rfl, hE⟩ | exact ⟨rfl, hE⟩ | exact ⟨_, hE⟩ | exact hE
                exact xOps_nil
              case hst => exact ⟨is.st _, is.st _, is.st _, is.st _, is.st _, is.st _, is.st _, trivial⟩
              case hfin =>
                intro vs x hf
                have f6 : vs 6 = wv (blk [y0, y1, y2, y3, y4, y5, y6, y7] bb) := hf.2.2.2.2.2.2.1
                clear hf
                have hAq := HAq.out
                subst hAq
                clear hsz hA3 hA6 hA7
                simp only [List.take_succ_cons, List.take_zero, List.drop_succ_cons, List.drop_zero, putAll, Act.put, List.setIfInBounds_toArray, List.set_cons_succ, List.set_cons_zero, Nat.zero_add, Nat.reduceAdd]
                clear HAq
                rw [f6]
                clear f6
                have hbox := HS.out.box.ext (show Ext Y (Y.plus x) from (by repeat (first | exact Ext.refl _ | assumption | apply Ext.plus_ | apply Ext.alloc | apply Ext.drew)))
                have hbl : (blk [y0, y1, y2, y3, y4, y5, y6, y7] bb).length = 8 := blk_len _ rfl
                refine wl_store rfl 32 (.tmp 6) (.tmp 51) rfl hbox ((blk [y0, y1, y2, y3, y4, y5, y6, y7] bb).map bw) rfl rfl (by rw [List.length_map, List.length_map, hbl]; rfl) (by rw [List.length_map, hbl]; kernel_rfl) (one_cells _) fun W3 hB3 hx => ?_
                have HS3 := Lib.hid ((RoR.ext' HS.out (show Ext Y (Y.plus x) from (by repeat (first | exact Ext.refl _ | assumption | apply Ext.plus_ | apply Ext.alloc | apply Ext.drew)))).stb hx hB3 hwB)
                clear hbox hbl hB3 hx HS HBA
                go_wp2
                go_roundw
                case rel =>
                  refine ⟨q + 1, j + 64, by omega, by go_num, Lib.hid ⟨by have := HJ.out; omega, ?_⟩⟩
                  rw [run, ← HST.out, ← HJ.out, ← HC.out.1]
                  exact HS3.out
                case measure => simp [intOf]; omega
            · have hjM : j = M := by omega
              have hq : q = M / 64 := by omega
              have HQ := Lib.hid (show [y0, y1, y2, y3, y4, y5, y6, y7] = stOf mm by rw [hst, stOf, HM.out.2.1, hq])
              have hli : ¬ (j : Int) < (M : Int) := by omega
              clear HS0 hjq hs0 hst HST HJ hq hjM hlt hj
              go_upto_region 15 with fail
              refine wp_at fun Y hY => ?_
              rw [← hY] at HS
              clear hY hli
              obtain ⟨O2, hO2⟩ : ∃ O2, O2 = Y.heap.size := ⟨_, rfl⟩
              have hBO : B < O2 := by rw [hO2]; exact HS.out.box.lt
              have hwO2 : w.heap.size ≤ O2 := by omega
              have H2 : Hid (SmR w O2 (.slice none 0 0) (outB (([y0, y1, y2, y3, y4, y5, y6, y7] : List W32).take 0)) Y ∧ Box 0 (([y0, y1, y2, y3, y4, y5, y6, y7] : List W32).map bw) B Y) := Lib.hid ⟨⟨⟨rfl, .inl ⟨rfl, rfl⟩⟩, HS.out.ext, by omega⟩, HS.out.box⟩
              clear HS hO2
              go_wp2
              go_loopw [8, 9] (fun v8 v9 wr => ∃ k : Nat, k ≤ 8 ∧ v9 = nw k ∧ Hid (SmR w O2 v8 (outB (([y0, y1, y2, y3, y4, y5, y6, y7] : List W32).take k)) wr ∧ Box 0 (([y0, y1, y2, y3, y4, y5, y6, y7] : List W32).map bw) B wr)) (fun _ v9 _ => 8 - (intOf v9).toNat)
              case atStart => exact ⟨0, Nat.zero_le _, rfl, H2⟩
              case round =>
                clear H2
                obtain ⟨k, hk8, rfl, HS⟩ := hrel
                have hl6 : (outB (([y0, y1, y2, y3, y4, y5, y6, y7] : List W32).take k)).length = 4 * k := by
                  rw [outB_len, List.length_take]
                  simp only [List.length_cons, List.length_nil]
                  omega
                obtain ⟨A8, c8, hv8, hle8, hm8⟩ := own_form HS.out.1.own
                rw [hl6] at hv8 hle8
                subst hv8
                by_cases hlt : k < 8
                · have hki : (k : Int) < 8 := by omega
                  obtain ⟨qk, hqk⟩ : ∃ qk, ([y0, y1, y2, y3, y4, y5, y6, y7] : List W32)[k]? = some qk := ⟨_, List.getElem?_eq_getElem (by simpa using hlt)⟩
                  have HQK := Lib.hid hqk
                  clear hqk
                  go_upto_region 19 with fail
                  refine wp_at fun Z hZ => ?_
                  rw [← hZ] at HS
                  clear hZ
                  have hc := wcell HS.out.2 (k := k) (by simpa using hlt)
                  rw [List.getD_eq_getElem?_getD, HQK.out, Option.getD_some] at hc
                  refine act_at fun A0 hAq => ?_
                  have hsz : A0.tmps.size = 79 := by
                    rw [hAq]
                    rfl
                  have hA6 : A0.tmps.getD 6 undef = .pointer (some ⟨B, 0, none⟩) := by
                    rw [hAq]
                    first | rfl | kernel_rfl
                  have hA8 : A0.tmps.getD 8 undef = .slice A8 (4 * k) c8 := by
                    rw [hAq]
                    first | rfl | kernel_rfl
                  have hA9 : A0.tmps.getD 9 undef = nw (k) := by
                    rw [hAq]
                    first | rfl | kernel_rfl
                  have HAq := Lib.hid hAq
                  clear hAq
                  apply wp_region_ext 21 [is (.slice A8 (4 * k) c8), is (nw (k)), is (.pointer (some ⟨B, k, none⟩)), is (bw (qk)), is (bw ((qk) >>> 24)), is (.int .u8 ((((qk) >>> 24).toNat % 256 : Nat) : Int)), is (nw (k)), is (.pointer (some ⟨B, k, none⟩)), is (bw (qk)), is (bw ((qk) >>> 16)), is (.int .u8 ((((qk) >>> 16).toNat % 256 : Nat) : Int)), is (nw (k)), is (.pointer (some ⟨B, k, none⟩)), is (bw (qk)), is (bw ((qk) >>> 8)), is (.int .u8 ((((qk) >>> 8).toNat % 256 : Nat) : Int)), is (nw (k)), is (.pointer (some ⟨B, k, none⟩)), is (bw (qk)), is (.int .u8 (((qk).toNat % 256 : Nat) : Int)), isRow [.int .u8 ((((qk) >>> 24).toNat % 256 : Nat) : Int), .int .u8 ((((qk) >>> 16).toNat % 256 : Nat) : Int), .int .u8 ((((qk) >>> 8).toNat % 256 : Nat) : Int), .int .u8 (((qk).toNat % 256 : Nat) : Int)]] (by kernel_rfl) (by kernel_rfl) rfl
                  case hops =>
                    simp only [List.take_succ_cons, List.take_zero]
                    with_reducible refine xOps_cons ?_ ?_
                    · with_reducible refine xop_un ?_ ?_
                      · rfl
                      · intro vs x F hF hd
                        have e1 : F.tmps.getD 8 undef = .slice A8 (4 * k) c8 := (hF.a 8 (by kernel_rfl) (by rw [hsz]; rfl)).trans hA8
                        exact m_v e1
                    with_reducible refine xOps_cons ?_ ?_
                    · with_reducible refine xop_un ?_ ?_
                      · rfl
                      · intro vs x F hF hd
                        have e1 : F.tmps.getD 9 undef = nw (k) := (hF.a 9 (by kernel_rfl) (by rw [hsz]; rfl)).trans hA9
                        exact m_v e1
                    with_reducible refine xOps_cons ?_ ?_
                    · with_reducible refine xop_un ?_ ?_
                      · rfl
                      · intro vs x F hF hd
                        have e1 : F.tmps.getD 6 undef = .pointer (some ⟨B, 0, none⟩) := (hF.a 6 (by kernel_rfl) (by rw [hsz]; rfl)).trans hA6
                        have e2 : F.tmps.getD 57 undef = nw (k) := (hF.v 57 1 (by kernel_rfl) (by rw [hsz]; rfl)).trans (dep_at hd 0 1 (is (nw (k))) (by kernel_rfl) (by kernel_rfl))
                        exact a_i8 (n := k) e1 e2 (by omega)
                    with_reducible refine xOps_cons ?_ ?_
                    · with_reducible refine xop_un ?_ ?_
                      · rfl
                      · intro vs x F hF hd
                        have e1 : F.tmps.getD 58 undef = .pointer (some ⟨B, k, none⟩) := (hF.v 58 2 (by kernel_rfl) (by rw [hsz]; rfl)).trans (dep_at hd 0 2 (is (.pointer (some ⟨B, k, none⟩))) (by kernel_rfl) (by kernel_rfl))
                        exact l_w e1 (cell_plus x hc)
                    with_reducible refine xOps_cons ?_ ?_
                    · with_reducible refine xop_un ?_ ?_
                      · rfl
                      · intro vs x F hF hd
                        have e1 : F.tmps.getD 59 undef = bw (qk) := (hF.v 59 3 (by kernel_rfl) (by rw [hsz]; rfl)).trans (dep_at hd 0 3 (is (bw (qk))) (by kernel_rfl) (by kernel_rfl))
                        exact w_shr_u64 (n := 24) e1 rfl (by omega)
                    with_reducible refine xOps_cons ?_ ?_
                    · with_reducible refine xop_un ?_ ?_
                      · rfl
                      · intro vs x F hF hd
                        have e1 : F.tmps.getD 60 undef = bw ((qk) >>> 24) := (hF.v 60 4 (by kernel_rfl) (by rw [hsz]; rfl)).trans (dep_at hd 0 4 (is (bw ((qk) >>> 24))) (by kernel_rfl) (by kernel_rfl))
                        exact w_conv8 e1
                    with_reducible refine xOps_cons ?_ ?_
                    · with_reducible refine xop_un ?_ ?_
                      · rfl
                      · intro vs x F hF hd
                        have e1 : F.tmps.getD 9 undef = nw (k) := (hF.a 9 (by kernel_rfl) (by rw [hsz]; rfl)).trans hA9
                        exact m_v e1
                    with_reducible refine xOps_cons ?_ ?_
                    · with_reducible refine xop_un ?_ ?_
                      · rfl
                      · intro vs x F hF hd
                        have e1 : F.tmps.getD 6 undef = .pointer (some ⟨B, 0, none⟩) := (hF.a 6 (by kernel_rfl) (by rw [hsz]; rfl)).trans hA6
                        have e2 : F.tmps.getD 62 undef = nw (k) := (hF.v 62 6 (by kernel_rfl) (by rw [hsz]; rfl)).trans (dep_at hd 0 6 (is (nw (k))) (by kernel_rfl) (by kernel_rfl))
                        exact a_i8 (n := k) e1 e2 (by omega)
                    with_reducible refine xOps_cons ?_ ?_
                    · with_reducible refine xop_un ?_ ?_
                      · rfl
                      · intro vs x F hF hd
                        have e1 : F.tmps.getD 63 undef = .pointer (some ⟨B, k, none⟩) := (hF.v 63 7 (by kernel_rfl) (by rw [hsz]; rfl)).trans (dep_at hd 0 7 (is (.pointer (some ⟨B, k, none⟩))) (by kernel_rfl) (by kernel_rfl))
                        exact l_w e1 (cell_plus x hc)
                    with_reducible refine xOps_cons ?_ ?_
                    · with_reducible refine xop_un ?_ ?_
                      · rfl
                      · intro vs x F hF hd
                        have e1 : F.tmps.getD 64 undef = bw (qk) := (hF.v 64 8 (by kernel_rfl) (by rw [hsz]; rfl)).trans (dep_at hd 0 8 (is (bw (qk))) (by kernel_rfl) (by kernel_rfl))
                        exact w_shr_u64 (n := 16) e1 rfl (by omega)
                    with_reducible refine xOps_cons ?_ ?_
                    · with_reducible refine xop_un ?_ ?_
                      · rfl
                      · intro vs x F hF hd
                        have e1 : F.tmps.getD 65 undef = bw ((qk) >>> 16) := (hF.v 65 9 (by kernel_rfl) (by rw [hsz]; rfl)).trans (dep_at hd 0 9 (is (bw ((qk) >>> 16))) (by kernel_rfl) (by kernel_rfl))
                        exact w_conv8 e1
                    with_reducible refine xOps_cons ?_ ?_
                    · with_reducible refine xop_un ?_ ?_
                      · rfl
                      · intro vs x F hF hd
                        have e1 : F.tmps.getD 9 undef = nw (k) := (hF.a 9 (by kernel_rfl) (by rw [hsz]; rfl)).trans hA9
                        exact m_v e1
                    with_reducible refine xOps_cons ?_ ?_
                    · with_reducible refine xop_un ?_ ?_
                      · rfl
                      · intro vs x F hF hd
                        have e1 : F.tmps.getD 6 undef = .pointer (some ⟨B, 0, none⟩) := (hF.a 6 (by kernel_rfl) (by rw [hsz]; rfl)).trans hA6
                        have e2 : F.tmps.getD 67 undef = nw (k) := (hF.v 67 11 (by kernel_rfl) (by rw [hsz]; rfl)).trans (dep_at hd 0 11 (is (nw (k))) (by kernel_rfl) (by kernel_rfl))
                        exact a_i8 (n := k) e1 e2 (by omega)
                    with_reducible refine xOps_cons ?_ ?_
                    · with_reducible refine xop_un ?_ ?_
                      · rfl
                      · intro vs x F hF hd
                        have e1 : F.tmps.getD 68 undef = .pointer (some ⟨B, k, none⟩) := (hF.v 68 12 (by kernel_rfl) (by rw [hsz]; rfl)).trans (dep_at hd 0 12 (is (.pointer (some ⟨B, k, none⟩))) (by kernel_rfl) (by kernel_rfl))
                        exact l_w e1 (cell_plus x hc)
                    with_reducible refine xOps_cons ?_ ?_
                    · with_reducible refine xop_un ?_ ?_
                      · rfl
                      · intro vs x F hF hd
                        have e1 : F.tmps.getD 69 undef = bw (qk) := (hF.v 69 13 (by kernel_rfl) (by rw [hsz]; rfl)).trans (dep_at hd 0 13 (is (bw (qk))) (by kernel_rfl) (by kernel_rfl))
                        exact w_shr_u64 (n := 8) e1 rfl (by omega)
                    with_reducible refine xOps_cons ?_ ?_
                    · with_reducible refine xop_un ?_ ?_
                      · rfl
                      · intro vs x F hF hd
                        have e1 : F.tmps.getD 70 undef = bw ((qk) >>> 8) := (hF.v 70 14 (by kernel_rfl) (by rw [hsz]; rfl)).trans (dep_at hd 0 14 (is (bw ((qk) >>> 8))) (by kernel_rfl) (by kernel_rfl))
                        exact w_conv8 e1
                    with_reducible refine xOps_cons ?_ ?_
                    · with_reducible refine xop_un ?_ ?_
                      · rfl
                      · intro vs x F hF hd
                        have e1 : F.tmps.getD 9 undef = nw (k) := (hF.a 9 (by kernel_rfl) (by rw [hsz]; rfl)).trans hA9
                        exact m_v e1
                    with_reducible refine xOps_cons ?_ ?_
                    · with_reducible refine xop_un ?_ ?_
                      · rfl
                      · intro vs x F hF hd
                        have e1 : F.tmps.getD 6 undef = .pointer (some ⟨B, 0, none⟩) := (hF.a 6 (by kernel_rfl) (by rw [hsz]; rfl)).trans hA6
                        have e2 : F.tmps.getD 72 undef = nw (k) := (hF.v 72 16 (by kernel_rfl) (by rw [hsz]; rfl)).trans (dep_at hd 0 16 (is (nw (k))) (by kernel_rfl) (by kernel_rfl))
                        exact a_i8 (n := k) e1 e2 (by omega)
                    with_reducible refine xOps_cons ?_ ?_
                    · with_reducible refine xop_un ?_ ?_
                      · rfl
                      · intro vs x F hF hd
                        have e1 : F.tmps.getD 73 undef = .pointer (some ⟨B, k, none⟩) := (hF.v 73 17 (by kernel_rfl) (by rw [hsz]; rfl)).trans (dep_at hd 0 17 (is (.pointer (some ⟨B, k, none⟩))) (by kernel_rfl) (by kernel_rfl))
                        exact l_w e1 (cell_plus x hc)
                    with_reducible refine xOps_cons ?_ ?_
                    · with_reducible refine xop_un ?_ ?_
                      · rfl
                      · intro vs x F hF hd
                        have e1 : F.tmps.getD 74 undef = bw (qk) := (hF.v 74 18 (by kernel_rfl) (by rw [hsz]; rfl)).trans (dep_at hd 0 18 (is (bw (qk))) (by kernel_rfl) (by kernel_rfl))
                        exact w_conv8 e1
                    with_reducible refine xOps_cons ?_ ?_
                    · with_reducible refine xop_un ?_ ?_
                      · rfl
                      · intro vs x F hF hd
                        have e61 : F.tmps.getD 61 undef = .int .u8 ((((qk) >>> 24).toNat % 256 : Nat) : Int) := (hF.v 61 5 (by kernel_rfl) (by rw [hsz]; rfl)).trans (dep_at hd 0 5 (is (.int .u8 ((((qk) >>> 24).toNat % 256 : Nat) : Int))) (by kernel_rfl) (by kernel_rfl))
                        have e66 : F.tmps.getD 66 undef = .int .u8 ((((qk) >>> 16).toNat % 256 : Nat) : Int) := (hF.v 66 10 (by kernel_rfl) (by rw [hsz]; rfl)).trans (dep_at hd 1 10 (is (.int .u8 ((((qk) >>> 16).toNat % 256 : Nat) : Int))) (by kernel_rfl) (by kernel_rfl))
                        have e71 : F.tmps.getD 71 undef = .int .u8 ((((qk) >>> 8).toNat % 256 : Nat) : Int) := (hF.v 71 15 (by kernel_rfl) (by rw [hsz]; rfl)).trans (dep_at hd 2 15 (is (.int .u8 ((((qk) >>> 8).toNat % 256 : Nat) : Int))) (by kernel_rfl) (by kernel_rfl))
                        have e75 : F.tmps.getD 75 undef = .int .u8 (((qk).toNat % 256 : Nat) : Int) := (hF.v 75 19 (by kernel_rfl) (by rw [hsz]; rfl)).trans (dep_at hd 3 19 (is (.int .u8 (((qk).toNat % 256 : Nat) : Int))) (by kernel_rfl) (by kernel_rfl))
                        rw [Array.getD_eq_getD_getElem?] at e61 e66 e71 e75
                        clear hF hd
                        simp only [comes]
                        go_simp
                        exact ⟨(Ext.refl _).alloc _, _, rfl, Cells.new _ _ _ _ rfl⟩
                    exact xOps_nil
                  case hst => exact ⟨is.st _, is.st _, is.st _, is.st _, is.st _, is.st _, is.st _, is.st _, is.st _, is.st _, is.st _, is.st _, is.st _, is.st _, is.st _, is.st _, is.st _, is.st _, is.st _, is.st _, isRow.st _, trivial⟩
                  case hfin =>
                    intro vs x hf
                    have f0 : vs 0 = .slice A8 (4 * k) c8 := hf.1
                    obtain ⟨E, f20, hC⟩ := hf.2.2.2.2.2.2.2.2.2.2.2.2.2.2.2.2.2.2.2.2.1
                    have g20 : vs 20 = .slice (some ⟨E, 0, none⟩) 4 4 := f20
                    clear hf f20
                    have hAq := HAq.out
                    subst hAq
                    clear hsz hA6 hA8 hA9
                    simp only [List.take_succ_cons, List.take_zero, List.drop_succ_cons, List.drop_zero, putAll, Act.put, List.setIfInBounds_toArray, List.set_cons_succ, List.set_cons_zero, Nat.zero_add, Nat.reduceAdd]
                    clear HAq
                    rw [f0]
                    clear f0
                    rw [g20]
                    clear g20
                    have hs := SmR.ext' HS.out.1 (show Ext Z (Z.plus x) from (by repeat (first | exact Ext.refl _ | assumption | apply Ext.plus_ | apply Ext.alloc | apply Ext.drew)))
                    have hbz := HS.out.2.ext (show Ext Z (Z.plus x) from (by repeat (first | exact Ext.refl _ | assumption | apply Ext.plus_ | apply Ext.alloc | apply Ext.drew)))
                    have hrw := Row.ofCells hC
                    refine wpList_app _ rfl (.tmp 56) (.tmp 76) 22 rfl (.slice A8 (4 * k) c8) _ rfl rfl (app_own _ O2 22 _ 5 i0 (.int .u8 0) 1 Tryd.underlying22 hi hz0 hz1 hz2 rfl _ _ _ hs.own _ _ _ _ (bytes (outW qk)) hrw (bytes_one _) (by unfold maxLen; rw [hl6]; omega) (by rw [hl6]; omega) hs.size) ?_
                    rintro v' W4 ha
                    have hbw := hbz.grown ha.2.1 (own_ne hs.own hBO)
                    have hl7 : outB (([y0, y1, y2, y3, y4, y5, y6, y7] : List W32).take k) ++ outW qk = outB (([y0, y1, y2, y3, y4, y5, y6, y7] : List W32).take (k + 1)) := by
                      rw [List.take_add_one, HQK.out]
                      simp [outB]
                    have hsm := hs.apped (nw' := outW qk) rfl ha hwO2
                    rw [hl7] at hsm
                    have HS2 := Lib.hid (And.intro hsm hbw)
                    clear hs hrw ha hC hl7 HS hbz hbw hsm hc
                    go_wp2
                    go_roundw
                    case rel => exact ⟨k + 1, by omega, by go_num, HS2⟩
                    case measure => simp [intOf]; omega
                · obtain rfl : k = 8 := by omega
                  clear hlt hk8
                  go_wp2
                  go_ret
                  have hS := HS.out.1
                  have e1 : (([y0, y1, y2, y3, y4, y5, y6, y7] : List W32).take 8) = [y0, y1, y2, y3, y4, y5, y6, y7] := rfl
                  rw [e1] at hS
                  have e2 : bl ++ padOf bl.length = mm := by
                    rw [HM.out.1, HP.out.1, HZ.out, HA.out.2.2, padOf, List.append_assoc]
                    rfl
                  rw [shaOf, e2, ← HQ.out]
                  exact ⟨_, rfl, own_lower hS.own hwO2, hS.ext⟩
end Go.Proofs.YtbdahlfakinagaaDoor
