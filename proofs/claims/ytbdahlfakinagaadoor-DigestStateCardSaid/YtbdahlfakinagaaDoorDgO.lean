/- digest.Of. -/
import Derived.Test.YtbdahlfakinagaaDoorDgL
set_option linter.unusedVariables false
namespace Go.Proofs.YtbdahlfakinagaaDoor
open Go.RowKit Go.Rg

/-- What lies in memory in Of's loop: the digest behind the bytes a. -/
structure OfR (w : World) (B : Nat) (A : Option Addr) (c : Nat) (a : List Int) (wr : World) : Prop where
  box : Box 0 (dcs (stOf a) a.length A (tlOf a).length c) B wr
  own : wr.ownsRow (B + 1) 5 1 (.slice A (tlOf a).length c) (tlOf a).length (bytes (tlOf a))
  ext : Ext w wr
  size : B + 1 ≤ wr.heap.size
theorem OfR.ext' {w : World} {B : Nat} {A : Option Addr} {c : Nat} {a : List Int} {wr w2 : World} (h : OfR w B A c a wr) (e : Ext wr w2) : OfR w B A c a w2 := ⟨h.box.ext e, own_ext h.own e, h.ext.trans e, Nat.le_trans h.size e.size⟩
theorem OfR.dg {w : World} {B : Nat} {A : Option Addr} {c : Nat} {a : List Int} {wr : World} (h : OfR w B A c a wr) : IsDg (B + 1) wr (dgv (stOf a) a.length A (tlOf a).length c) a := ⟨A, c, rfl, h.own⟩
theorem dcs_len (a : List Int) (n : Nat) (A : Option Addr) (m c : Nat) : (dcs (stOf a) n A m c).length = 10 := by simp [dcs, stOf_len]
theorem st_nil : stOf [] = IL := rfl
theorem tl_nil : tlOf [] = [] := rfl
theorem dcs_nil : dcs (stOf []) ([] : List Int).length none (tlOf []).length 0 = dcs IL 0 none 0 0 := by rw [st_nil, tl_nil]; rfl
theorem dcs_one (a : List Int) (n : Nat) (A : Option Addr) (m c : Nat) : (dcs (stOf a) n A m c).all (·.oneCell') = true := by
  rw [dcs, List.all_append, one_cells]
  rfl
theorem by_cat {ls : List (List Int)} (h : ∀ l ∈ ls, By l) (k : Nat) : By (cat ls k) := fun x hx => by
  unfold cat at hx
  obtain ⟨l, hl, hx⟩ := List.mem_flatten.1 hx
  exact h l (List.mem_of_mem_take hl) x hx
set_option maxRecDepth 100000 in
set_option maxHeartbeats 8000000 in
theorem of_core (A : Option Addr) (m c : Nat) (vs : List Value) (ls : List (List Int)) (w : World) (hg : Glob w) (hg2 : 2 ≤ w.heap.size) (hr : Row w w.heap.size 1 A m vs) (hv : VB w vs ls) (hb : ∀ l ∈ ls, By l) (hm : m ≤ 9223372036854775807) (hs : ls.flatten.length ≤ 549755813888) :
    Calls Tryd.prog 10 #[.slice A m c] w fun e w' => ∃ u, e = .returned u ∧ w'.ownsRow w.heap.size 5 1 u 32 (bytes (shaOf ls.flatten)) ∧ Ext w w' := by
  have hml : m = ls.length := by rw [← hr.len]; exact hv.1
  have HH := Lib.hid (And.intro hg (And.intro hr (And.intro hv (And.intro hb (And.intro hs hml)))))
  clear hg hr hv hb hs hml
  go_enter Tryd.func10, Tryd.ntmps10
  go_wp2_with fail
  refine (start_any _ HH.out.1).mono ?_
  rintro e Y ⟨rfl, hE⟩
  have HE := Lib.hid hE
  clear hE
  go_wp2_with (with_reducible show wpList _ _ _ (⟨none, _, _, _, _, _⟩ :: _) _ _; refine Lock.out ?_)
  refine ⟨?_, trivial⟩
  refine wl_at fun Z hZ => ?_
  obtain ⟨B, hBe⟩ : ∃ B, B = Y.heap.size := ⟨_, rfl⟩
  have hB0 : Box 0 zeroD B Z := by
    rw [hZ, hBe]
    repeat' (first | with_reducible assumption | ((with_reducible refine Box.fresh ?fb ?fn ?fr); (case fb => first | omega | (simp <;> omega)); (case fn => first | omega | (simp <;> omega)); (case fr => rfl)) | with_reducible apply Box.up | with_reducible apply Box.drew_ | with_reducible apply Box.drewN_ | with_reducible apply Box.plus_ | with_reducible apply Box.put | with_reducible refine Box.off ?_ (by omega))
    all_goals first | rfl | (simp; done)
  have hE1 : Ext Y Z := by
    rw [hZ]
    repeat' (first | with_reducible assumption | with_reducible exact Ext.refl _ | with_reducible apply Ext.alloc | with_reducible apply Ext.drew | with_reducible apply Ext.drewN | with_reducible apply Ext.plus_ | with_reducible refine Ext.put ?_ (by omega))
  have hBl : Y.heap.size ≤ B := by omega
  rw [← hBe]
  clear hZ hBe
  refine wl_storeO rfl 34 (.tmp 3) (.tmp 6) rfl hB0 (dcs IL 0 none 0 0) rfl rfl rfl (by kernel_rfl) rfl fun W hW hx ho => ?_
  have hwB : w.heap.size ≤ B := Nat.le_trans HE.out.size hBl
  have HS : Hid (OfR w B none 0 (cat ls 0) W) := Lib.hid (by
    have hc : cat ls 0 = [] := by simp [cat]
    rw [hc]
    refine ⟨by rw [dcs_nil]; exact hW, by rw [tl_nil]; exact ⟨rfl, .inl ⟨rfl, rfl⟩⟩, hx.ext _ (HE.out.trans hE1) hwB, by rw [hx.size]; exact hB0.lt⟩)
  clear hB0 hE1 hBl hW hx ho HE Z
  go_wp2
  go_loopw [9, 5] (fun i _ wr => ∃ (k : Nat) (A1 : Option Addr) (c1 : Nat), k ≤ m ∧ i = nw k ∧ Hid (OfR w B A1 c1 (cat ls k) wr)) (fun i _ _ => m - (intOf i).toNat)
  case atStart => exact ⟨0, _, _, Nat.zero_le _, rfl, HS⟩
  case round =>
    clear HS
    obtain ⟨k, A1, c1, hk, rfl, HS⟩ := hrel
    by_cases hlt : k < m
    · obtain ⟨hg, hr, hv, hb, hs, hml⟩ := HH.out
      obtain ⟨l, hl⟩ : ∃ l, ls[k]? = some l := ⟨_, List.getElem?_eq_getElem (by rw [← hml]; exact hlt)⟩
      obtain ⟨u, huk⟩ : ∃ u, vs[k]? = some u := ⟨_, List.getElem?_eq_getElem (by rw [hr.len]; exact hlt)⟩
      have hbs := (hv.lift HS.out.ext).2 k u l huk hl
      obtain ⟨A', n', c', rfl, hbs2⟩ := hbs
      obtain ⟨b, o, rfl, hbb, hcell⟩ := (hr.lift HS.out.ext).at_ huk
      have hcs := cat_succ ls k l hl
      have hle := cat_le ls (k + 1)
      have hll : (cat ls k).length + l.length ≤ 549755813888 := by
        rw [hcs, List.length_append] at hle
        omega
      have HB := Lib.hid (And.intro (show BS _ (.slice A' n' c') l from ⟨A', n', c', rfl, hbs2⟩) (And.intro (hb l (List.mem_of_getElem? hl)) (And.intro (by_cat hb k) (And.intro hll (And.intro hcs hg)))))
      have hki : (k : Int) < (m : Int) := by omega
      clear hg hr hv hb hs hml hl huk hbs2 hcs hle hll
      go_upto_region 5 with fail
      go_wp2_with (with_reducible show wpList _ _ _ (⟨some 13, _, _, _, _, _⟩ :: _) _ _; refine Lock.out ?_)
      refine ⟨?_, trivial⟩
      refine wl_at fun Y hY => ?_
      have hs2 := HS.out
      rw [← hY] at hs2
      have hbs := HB.out.1
      rw [← hY] at hbs
      clear hY hcell hbb
      refine wl_load rfl 34 (.tmp 3) rfl hs2.box rfl Tryd.underlying34 rfl (by rw [dcs_len]; kernel_rfl) ?_
      have HW := Lib.hid (write_dg (B + 1) _ (cat ls k) A' n' c' l Y (HB.out.2.2.2.2.2.ext hs2.ext) (Nat.le_trans hg2 hs2.ext.size) hs2.dg hbs HB.out.2.2.1 HB.out.2.1 HB.out.2.2.2.1)
      have HS2 := Lib.hid hs2
      clear hs2 hbs HS
      go_wp2_with fail
      refine HW.out.mono ?_
      rintro e Y2 ⟨v, rfl, ⟨A2, c2, rfl, hown⟩, hE⟩
      obtain ⟨cc, hcc⟩ : ∃ cc, cc = cat ls k ++ l := ⟨_, rfl⟩
      rw [← hcc] at hown ⊢
      have HCC := Lib.hid hcc
      clear hcc
      have hs3 := HS2.out.ext' hE
      have hYB : B < Y.heap.size := HS2.out.size
      go_wp2_with (with_reducible show wpList _ _ _ (⟨none, _, _, _, _, _⟩ :: _) _ _; refine Lock.out ?_)
      refine ⟨?_, trivial⟩
      refine wl_storeO rfl 34 (.tmp 3) (.tmp 15) rfl hs3.box (dcs (stOf cc) cc.length A2 (tlOf cc).length c2) rfl rfl (by rw [dcs_len, dcs_len]) (by rw [dcs_len]; kernel_rfl) (dcs_one _ _ _ _ _) fun W hW hx ho => ?_
      have HS3 : Hid (OfR w B A2 c2 (cat ls (k + 1)) W) := Lib.hid (by
        rw [HB.out.2.2.2.2.1, ← HCC.out]
        exact ⟨hW, ho (Nat.lt_succ_self B) (own_lower hown hYB), hx.ext _ hs3.ext hwB, by rw [hx.size]; exact hs3.size⟩)
      clear hs3 hown hE hW hx ho hYB HW HS2 HB
      go_wp2
      go_roundw
      case rel => exact ⟨k + 1, A2, c2, by omega, by go_num, HS3⟩
      case measure => simp [intOf]; omega
    · obtain ⟨hg, hr, hv, hb, hs, hml⟩ := HH.out
      have hkm : k = m := by omega
      have e := cat_all ls k (by omega)
      rw [e] at HS
      have hki : ¬ (k : Int) < (m : Int) := by omega
      have hbf : By ls.flatten := by rw [← e]; exact by_cat hb k
      obtain ⟨fl, hfl⟩ : ∃ fl, fl = ls.flatten := ⟨_, rfl⟩
      rw [← hfl] at HS hbf hs
      have HFL := Lib.hid hfl
      clear hfl
      have HG := Lib.hid (And.intro hg (And.intro hbf hs))
      clear hg hr hv hb hs hml e hbf hlt
      go_upto_region 7 with fail
      go_wp2_with (with_reducible show wpList _ _ _ (⟨some 17, _, _, _, _, _⟩ :: _) _ _; refine Lock.out ?_)
      refine ⟨?_, trivial⟩
      refine wl_at fun Y hY => ?_
      rw [← hY] at HS
      clear hY
      refine wl_load rfl 34 (.tmp 3) rfl HS.out.box rfl Tryd.underlying34 rfl (by rw [dcs_len]; kernel_rfl) ?_
      go_wp2_with fail
      refine (sum_dg (B + 1) _ fl Y (HG.out.1.ext HS.out.ext) (Nat.le_trans hg2 HS.out.ext.size) HS.out.dg HG.out.2.1 HG.out.2.2).mono ?_
      rintro e Y2 ⟨u, rfl, hown, hE⟩
      have HX := Lib.hid (And.intro (own_lower hown HS.out.ext.size) (HS.out.ext.trans hE))
      clear hown hE HS
      go_wp2
      go_ret
      rw [← HFL.out]
      exact ⟨_, rfl, HX.out.1, HX.out.2⟩
end Go.Proofs.YtbdahlfakinagaaDoor
