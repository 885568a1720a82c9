/- ConfigValidate: the walk. -/
import Derived.Test.YtlcopiepcpangaaCfgA
import Derived.Test.YtlcopiepcpangaaOpenCfg
import Derived.Deep.CutRange
import Derived.Deep.CutBlock
set_option linter.unusedVariables false
namespace Go.Proofs.Ytlcopiepcpangaa
open Go.RowKit Go.Rg

/-- A store of one cell. -/
theorem StB.one (w : World) (b k : Nat) (v : Value) : StB b w (w.setCell ⟨b, k, none⟩ v) :=
  ⟨fun w0 h hb => Ext.put h hb, fun h hne => Box.off h (Ne.symm hne), fun p hp => World.cell?_setCell_other _ _ _ _ (fun e => hp (by rw [← e])), fun p => World.frozen?_setCell _ _ _ _, by simp⟩
/-- A configuration in the box M. -/
def At (w : World) (M : Nat) (wx : World) : Prop := ∃ (c : Cf) (wl : List Int) (ig : List ByteArray), Box 0 c.cells M wx ∧ CfOK c wx wl ig ∧ Ext w wx
section
variable {g : Cf} {wl : List Int} {ig : List ByteArray} {W w : World} {M : Nat}
/-- One field changed. -/
theorem At.one (hB : Box 0 g.cells M W) (hk : CfOK g W wl ig) (hp : (∀ a, g.pA = some a → M < a.block) ∧ ∀ a, g.iA = some a → M < a.block) (hE : Ext w W) (hw : w.heap.size ≤ M) (k : Nat) (v : Value) (d : Cf) (hc : d.cells = g.cells.set k v) (hl : k < 26)
    (h1 : d.pA = g.pA) (h2 : d.iA = g.iA) (h3 : d.pn = g.pn) (h4 : d.pc = g.pc) (h5 : d.im = g.im) (h6 : d.ik = g.ik) (h7 : d.salt.size ≤ 9223372036854775807) (h8 : d.cook.size ≤ 9223372036854775807) : At w M (W.setCell ⟨M, k, none⟩ v) := by
  have hx := StB.one W M k v
  have hs := CfOK.stb hk hx (fun a ha => Nat.ne_of_gt (hp.1 a ha)) (fun a ha => Nat.ne_of_gt (hp.2 a ha))
  obtain ⟨q1, q2, q3, q4, q5, q6, q7, q8, q9⟩ := hs
  exact ⟨d, wl, ig, Box.put hB hc (by simpa using hl), ⟨by rw [h1, h3]; exact q1, by rw [h2, h5]; exact q2, by rw [h3, h4]; exact q3, by rw [h5, h6]; exact q4, by rw [h4]; exact q5, by rw [h6]; exact q6, q7, h7, h8⟩, Ext.put hE hw⟩
/-- The names to ignore changed. -/
theorem At.ign (hB : Box 0 g.cells M W) (hk : CfOK g W wl ig) (hp : (∀ a, g.pA = some a → M < a.block) ∧ ∀ a, g.iA = some a → M < a.block) (hE : Ext w W) (hw : w.heap.size ≤ M) (Q : Nat) (s1 s2 : ByteArray) (hQ : Box 0 [.string s1, .string s2] Q W) (hne : M ≠ Q) (e1 : s1.size ≤ 9223372036854775807) (e2 : s2.size ≤ 9223372036854775807) :
    At w M (W.setCell ⟨M, 25, none⟩ (.slice (some ⟨Q, 0, none⟩) 2 2)) := by
  have hx := StB.one W M 25 (.slice (some ⟨Q, 0, none⟩) 2 2)
  have hs := CfOK.stb hk hx (fun a ha => Nat.ne_of_gt (hp.1 a ha)) (fun a ha => Nat.ne_of_gt (hp.2 a ha))
  have hQ2 := hx.box hQ (Ne.symm hne)
  obtain ⟨q1, q2, q3, q4, q5, q6, q7, q8, q9⟩ := hs
  refine ⟨{ g with iA := some ⟨Q, 0, none⟩, im := 2, ik := 2 }, wl, [s1, s2], Box.put hB rfl (by simp), ⟨q1, ⟨rfl, fun _ => ⟨Q, 0, rfl, hQ2.lt, fun j u hu => ?_⟩⟩, q3, Nat.le_refl _, q5, (by show (2 : Nat) ≤ _; decide), ?_, q8, q9⟩, Ext.put hE hw⟩
  · have hj : j < 2 := by
      have := (List.getElem?_eq_some_iff.1 hu).1
      simpa using this
    have := hQ2.cell j hj
    rw [Nat.zero_add, this, ← hu]
    rfl
  · intro q hq
    simp at hq
    rcases hq with rfl | rfl
    · exact e1
    · exact e2
end
/-- The table of numbers. -/
def tab : List Int := [-1, 0, 1, 63, 64, 99, 100, 101, 9999, 10000, 10001, 16384, 16385, 100000, 100001, 500000, 500001, 1000000, 1000001]
set_option maxRecDepth 100000 in
set_option maxHeartbeats 8000000 in
theorem law_valid_core (B : Option Addr) (k d : Nat) (ll : List Int) (c0 : Cf) (wl0 : List Int) (ig0 : List ByteArray) (at_ nn : Int) (str : ByteArray) (wild : Bool) (w : World) (hB : Row w w.heap.size 1 B k (ints ll)) (hk : k ≤ 9223372036854775807) (h0 : CfOK c0 w wl0 ig0) (hst : str.size ≤ 9223372036854775807) :
    Calls Try.prog 3 #[.slice B k d, cv c0, .int .i64 at_, .int .i64 nn, .string str, .bool wild] w fun e w' => e = .returned (.bool true) ∧ Ext w w' := by
  have H0 := Lib.hid h0
  clear h0
  have HST := Lib.hid hst
  clear hst
  go_enter Try.func3, Try.ntmps3
  go_wp2_with (with_reducible show wpList _ _ _ (⟨some 15, _, _, _, _, _⟩ :: _) _ _; refine Lock.out ?_)
  refine ⟨?_, trivial⟩
  refine wl_at fun U hU => ?_
  have hA : Box 0 c0.cells w.heap.size U := by
    rw [hU]
    repeat' (first | with_reducible assumption | ((with_reducible refine Box.fresh ?fb ?fn ?fr); (case fb => first | omega | (simp <;> omega)); (case fn => first | omega | (simp <;> omega)); (case fr => rfl)) | with_reducible apply Box.up | with_reducible apply Box.drew_ | with_reducible apply Box.drewN_ | with_reducible apply Box.plus_ | with_reducible apply Box.put | with_reducible refine Box.off ?_ (by omega))
    all_goals first | rfl | (simp; done)
  have hE : Ext w U := by
    rw [hU]
    repeat' (first | with_reducible assumption | with_reducible exact Ext.refl _ | with_reducible apply Ext.alloc | with_reducible apply Ext.drew | with_reducible apply Ext.drewN | with_reducible apply Ext.plus_ | with_reducible refine Ext.put ?_ (by omega))
  clear hU
  refine wl_load rfl 27 (.tmp 7) rfl hA rfl Try.underlying27 rfl (by kernel_rfl) ?_
  have HE := Lib.hid hE
  clear hA hE
  go_wp2_with (with_reducible show wpList _ _ _ (⟨none, _, _, _, _, _⟩ :: _) _ _; refine Lock.out ?_)
  refine ⟨?_, trivial⟩
  refine wl_at fun V hV => ?_
  obtain ⟨M, hM⟩ : ∃ P, P = U.heap.size := ⟨_, rfl⟩
  have hB0 : Box 0 (.int .i64 0 :: zcells) M V := by
    rw [hV, hM]
    repeat' (first | with_reducible assumption | ((with_reducible refine Box.fresh ?fb ?fn ?fr); (case fb => first | omega | (simp <;> omega)); (case fn => first | omega | (simp <;> omega)); (case fr => rfl)) | with_reducible apply Box.up | with_reducible apply Box.drew_ | with_reducible apply Box.drewN_ | with_reducible apply Box.plus_ | with_reducible apply Box.put | with_reducible refine Box.off ?_ (by omega))
    all_goals first | rfl | (simp; done)
  have hE1 : Ext U V := by
    rw [hV]
    repeat' (first | with_reducible assumption | with_reducible exact Ext.refl _ | with_reducible apply Ext.alloc | with_reducible apply Ext.drew | with_reducible apply Ext.drewN | with_reducible apply Ext.plus_ | with_reducible refine Ext.put ?_ (by omega))
  have hMl : U.heap.size ≤ M := by omega
  rw [← hM]
  clear hV hM
  refine wl_store rfl 27 (.tmp 13) (.tmp 15) rfl hB0 c0.cells rfl rfl rfl (by kernel_rfl) rfl fun W1 hB1 hx => ?_
  have hE2 := hx.ext _ hE1 hMl
  have HE1 := Lib.hid (HE.out.trans hE2)
  have hwM : w.heap.size ≤ M := Nat.le_trans HE.out.size hMl
  have HM := Lib.hid hB1
  clear hE2 hE1 hx hB0 hB1 HE hMl V U
  cases wild
  · go_wp2_with fail
    refine calls_at fun X0 hX => ?_
    obtain ⟨s, hs⟩ : ∃ s, s = W1.heap.size := ⟨_, rfl⟩
    have hS : SSt X0 X0 s B k d ll := by
      rw [hX, hs]
      exact src_new hB HE1.out hk
    have hE0 : Ext W1 X0 := by
      rw [hX]
      repeat' (first | with_reducible assumption | with_reducible exact Ext.refl _ | with_reducible apply Ext.alloc | with_reducible apply Ext.drew | with_reducible apply Ext.drewN | with_reducible apply Ext.plus_ | with_reducible refine Ext.put ?_ (by omega))
    rw [← hs]
    have hMs : M < s := by
      have := HM.out.lt
      omega
    clear hX hs
    replace HM := Lib.hid (HM.out.ext hE0)
    have HE0 := Lib.hid (HE1.out.trans hE0)
    clear hE0 HE1
    refine (srcConfig_any s B k d ll X0 hS).mono ?_
    rintro e X1 ⟨g, wl, ig, rfl, hg, hok, hss, hpl, hil⟩
    have HE1 := Lib.hid (ext_se HE0.out hss.se (by omega))
    replace HM := Lib.hid (hss.se.boxx HM.out (by omega))
    have HG := Lib.hid hg
    have HO := Lib.hid (And.intro hok (And.intro (fun a ha => Nat.lt_trans hMs (hpl a ha)) (fun a ha => Nat.lt_trans hMs (hil a ha))))
    clear hg hok hss hpl hil HE0 hS hMs X0
    go_wp2_with (with_reducible show wpList _ _ _ (⟨none, _, _, _, _, _⟩ :: _) _ _; refine Lock.out ?_)
    refine ⟨?_, trivial⟩
    refine wl_store rfl 27 (.tmp 13) (.tmp 21) rfl HM.out g.cells rfl rfl rfl (by kernel_rfl) rfl fun W2 hB2 hx => ?_
    have HOK := Lib.hid (CfOK.stb HO.out.1 hx (fun a ha => Nat.ne_of_gt (HO.out.2.1 a ha)) (fun a ha => Nat.ne_of_gt (HO.out.2.2 a ha)))
    have HPL := Lib.hid HO.out.2
    have HE2 := Lib.hid (hx.ext _ HE1.out hwM)
    replace HM := Lib.hid hB2
    clear hx hB2 HO HE1 X1
    go_wp2_with (with_reducible show wpList _ _ _ (⟨some 22, _, _, _, _, _⟩ :: _) _ _; refine Lock.out ?_)
    refine ⟨?_, trivial⟩
    refine wl_load rfl 27 (.tmp 13) rfl HM.out rfl Try.underlying27 rfl (by kernel_rfl) ?_
    go_wp2_with fail
    refine ((HG.out.overV HOK.out).out _ (Ext.refl _)).mono ?_
    rintro e Y ⟨rfl, hEY⟩
    replace HM := Lib.hid (HM.out.ext hEY)
    replace HOK := Lib.hid (HOK.out.lift hEY)
    replace HE2 := Lib.hid (HE2.out.trans hEY)
    clear hEY HG H0
    go_upto_if 28 with fail
    obtain ⟨bb, hbb⟩ : ∃ b, b = (bits BinOp.and IntKind.i64 nn 1 == 1) := ⟨_, rfl⟩
    rw [← hbb]
    clear hbb
    go_cut [14] from 29 to 34 (fun s14 wx => (∃ m, s14 = .int .i64 m) ∧ Hid (Ext Y wx))
    case first =>
      cases bb
      · go_wp2
        go_meet
        case rel => exact ⟨⟨_, rfl⟩, Lib.hid (Ext.refl _)⟩
      · go_wp2_with fail
        refine calls_at fun Z hZ => ?_
        obtain ⟨b, hb⟩ : ∃ b, b = Y.heap.size := ⟨_, rfl⟩
        have hC : Box 0 (tab.map (Value.int .i64)) b Z := by
          rw [hZ, hb]
          repeat' (first | with_reducible assumption | ((with_reducible refine Box.fresh ?fb ?fn ?fr); (case fb => first | omega | (simp <;> omega)); (case fn => first | omega | (simp <;> omega)); (case fr => rfl)) | with_reducible apply Box.up | with_reducible apply Box.drew_ | with_reducible apply Box.drewN_ | with_reducible apply Box.plus_ | with_reducible apply Box.put | with_reducible refine Box.off ?_ (by omega))
          all_goals first | rfl | (simp; done)
        have hE : Ext Y Z := by
          rw [hZ]
          repeat' (first | with_reducible assumption | with_reducible exact Ext.refl _ | with_reducible apply Ext.alloc | with_reducible apply Ext.drew | with_reducible apply Ext.drewN | with_reducible apply Ext.plus_ | with_reducible refine Ext.put ?_ (by omega))
        rw [← hb]
        clear hZ hb
        refine (within_any _ 19 _ (by decide) (by decide)).mono ?_
        rintro e w' ⟨rfl, rfl⟩
        obtain ⟨v, hv⟩ : ∃ v, v = nn / 2 % 19 := ⟨_, rfl⟩
        obtain ⟨q, hq⟩ : ∃ q : Nat, (q : Int) = v := ⟨v.toNat, by omega⟩
        have hq19 : q < 19 := by omega
        rw [← hv, ← hq]
        have hcl := hC.cell q (by simpa [tab] using hq19)
        rw [List.getElem?_map, List.getElem?_eq_getElem (by simpa [tab] using hq19)] at hcl
        simp only [Option.map_some] at hcl
        obtain ⟨tv, htv⟩ : ∃ tv, Z.cell? ⟨b, 0 + q, none⟩ = some (.int .i64 tv) := ⟨_, by rw [Nat.zero_add]; exact hcl⟩
        rw [Nat.zero_add] at htv
        have h1 : (0 : Int) ≤ (q : Int) := by omega
        have h2 : (q : Int) < 19 := by omega
        have HE := Lib.hid hE
        clear hcl hE hC hv hq hq19 v
        go_wp2
        go_meet
        case rel => exact ⟨⟨_, rfl⟩, HE⟩
    case rest =>
      obtain ⟨⟨m, rfl⟩, hE⟩ := hcut
      replace HM := Lib.hid (HM.out.ext hE.out)
      replace HOK := Lib.hid (HOK.out.lift hE.out)
      replace HE2 := Lib.hid (HE2.out.trans hE.out)
      clear hE
      go_wp2_with fail
      refine (within_any at_ 20 _ (by decide) (by decide)).mono ?_
      rintro e w' ⟨rfl, rfl⟩
      obtain ⟨q, hq⟩ : ∃ q, q = at_ % 20 := ⟨_, rfl⟩
      rw [← hq]
      have h0 : 0 ≤ q := by omega
      have h20 : q < 20 := by omega
      clear hq
      go_upto_block 0 with fail
      go_cut [14] from 37 to 116 (fun s14 wx => Hid (At w M wx))
      case first =>
        have hf := HM.out.free
        rcases (show q = 0 ∨ q = 1 ∨ q = 2 ∨ q = 3 ∨ q = 4 ∨ q = 5 ∨ q = 6 ∨ q = 7 ∨ q = 8 ∨ q = 9 ∨ q = 10 ∨ q = 11 ∨ q = 12 ∨ q = 13 ∨ q = 14 ∨ q = 15 ∨ q = 16 ∨ q = 17 ∨ q = 18 ∨ q = 19 by omega) with rfl | rfl | rfl | rfl | rfl | rfl | rfl | rfl | rfl | rfl | rfl | rfl | rfl | rfl | rfl | rfl | rfl | rfl | rfl | rfl
        · have c := HM.out.cell 0 (by simp)
          simp only [List.getElem?_cons_zero, List.getElem?_cons_succ] at c
          clear h0 h20
          go_wp2
          go_meet
          case rel => exact Lib.hid (At.one HM.out HOK.out HPL.out HE2.out hwM 0 _ { g with mh := m } rfl (by decide) rfl rfl rfl rfl rfl rfl HOK.out.ss HOK.out.cs)
        · have c := HM.out.cell 1 (by simp)
          simp only [List.getElem?_cons_zero, List.getElem?_cons_succ] at c
          clear h0 h20
          go_wp2
          go_meet
          case rel => exact Lib.hid (At.one HM.out HOK.out HPL.out HE2.out hwM 1 _ { g with mb := m } rfl (by decide) rfl rfl rfl rfl rfl rfl HOK.out.ss HOK.out.cs)
        · have c := HM.out.cell 2 (by simp)
          simp only [List.getElem?_cons_zero, List.getElem?_cons_succ] at c
          clear h0 h20
          go_wp2
          go_meet
          case rel => exact Lib.hid (At.one HM.out HOK.out HPL.out HE2.out hwM 2 _ { g with mr := m } rfl (by decide) rfl rfl rfl rfl rfl rfl HOK.out.ss HOK.out.cs)
        · have c := HM.out.cell 3 (by simp)
          simp only [List.getElem?_cons_zero, List.getElem?_cons_succ] at c
          clear h0 h20
          go_wp2
          go_meet
          case rel => exact Lib.hid (At.one HM.out HOK.out HPL.out HE2.out hwM 3 _ { g with ci := m } rfl (by decide) rfl rfl rfl rfl rfl rfl HOK.out.ss HOK.out.cs)
        · have c := HM.out.cell 4 (by simp)
          simp only [List.getElem?_cons_zero, List.getElem?_cons_succ] at c
          clear h0 h20
          go_wp2
          go_meet
          case rel => exact Lib.hid (At.one HM.out HOK.out HPL.out HE2.out hwM 4 _ { g with co := m } rfl (by decide) rfl rfl rfl rfl rfl rfl HOK.out.ss HOK.out.cs)
        · have c := HM.out.cell 5 (by simp)
          simp only [List.getElem?_cons_zero, List.getElem?_cons_succ] at c
          clear h0 h20
          go_wp2
          go_meet
          case rel => exact Lib.hid (At.one HM.out HOK.out HPL.out HE2.out hwM 5 _ { g with cl := m } rfl (by decide) rfl rfl rfl rfl rfl rfl HOK.out.ss HOK.out.cs)
        · have c := HM.out.cell 6 (by simp)
          simp only [List.getElem?_cons_zero, List.getElem?_cons_succ] at c
          clear h0 h20
          go_wp2
          go_meet
          case rel => exact Lib.hid (At.one HM.out HOK.out HPL.out HE2.out hwM 6 _ { g with ad := m } rfl (by decide) rfl rfl rfl rfl rfl rfl HOK.out.ss HOK.out.cs)
        · have c := HM.out.cell 7 (by simp)
          simp only [List.getElem?_cons_zero, List.getElem?_cons_succ] at c
          clear h0 h20
          go_wp2
          go_meet
          case rel => exact Lib.hid (At.one HM.out HOK.out HPL.out HE2.out hwM 7 _ { g with li := m } rfl (by decide) rfl rfl rfl rfl rfl rfl HOK.out.ss HOK.out.cs)
        · have c := HM.out.cell 8 (by simp)
          simp only [List.getElem?_cons_zero, List.getElem?_cons_succ] at c
          clear h0 h20
          go_wp2
          go_meet
          case rel => exact Lib.hid (At.one HM.out HOK.out HPL.out HE2.out hwM 8 _ { g with st := m } rfl (by decide) rfl rfl rfl rfl rfl rfl HOK.out.ss HOK.out.cs)
        · have c := HM.out.cell 9 (by simp)
          simp only [List.getElem?_cons_zero, List.getElem?_cons_succ] at c
          clear h0 h20
          go_wp2
          go_meet
          case rel => exact Lib.hid (At.one HM.out HOK.out HPL.out HE2.out hwM 9 _ { g with ca := m } rfl (by decide) rfl rfl rfl rfl rfl rfl HOK.out.ss HOK.out.cs)
        · have c := HM.out.cell 10 (by simp)
          simp only [List.getElem?_cons_zero, List.getElem?_cons_succ] at c
          clear h0 h20
          go_wp2
          go_meet
          case rel => exact Lib.hid (At.one HM.out HOK.out HPL.out HE2.out hwM 10 _ { g with sh := m } rfl (by decide) rfl rfl rfl rfl rfl rfl HOK.out.ss HOK.out.cs)
        · have c := HM.out.cell 11 (by simp)
          simp only [List.getElem?_cons_zero, List.getElem?_cons_succ] at c
          clear h0 h20
          go_wp2
          go_meet
          case rel => exact Lib.hid (At.one HM.out HOK.out HPL.out HE2.out hwM 11 _ { g with te := m } rfl (by decide) rfl rfl rfl rfl rfl rfl HOK.out.ss HOK.out.cs)
        · have c := HM.out.cell 12 (by simp)
          simp only [List.getElem?_cons_zero, List.getElem?_cons_succ] at c
          clear h0 h20
          go_wp2
          go_meet
          case rel => exact Lib.hid (At.one HM.out HOK.out HPL.out HE2.out hwM 12 _ { g with di := m } rfl (by decide) rfl rfl rfl rfl rfl rfl HOK.out.ss HOK.out.cs)
        · have c := HM.out.cell 13 (by simp)
          simp only [List.getElem?_cons_zero, List.getElem?_cons_succ] at c
          clear h0 h20
          go_wp2
          go_meet
          case rel => exact Lib.hid (At.one HM.out HOK.out HPL.out HE2.out hwM 13 _ { g with dr := m } rfl (by decide) rfl rfl rfl rfl rfl rfl HOK.out.ss HOK.out.cs)
        · have c := HM.out.cell 14 (by simp)
          simp only [List.getElem?_cons_zero, List.getElem?_cons_succ] at c
          clear h0 h20
          go_wp2
          go_meet
          case rel => exact Lib.hid (At.one HM.out HOK.out HPL.out HE2.out hwM 14 _ { g with ds := m } rfl (by decide) rfl rfl rfl rfl rfl rfl HOK.out.ss HOK.out.cs)
        · have c := HM.out.cell 15 (by simp)
          simp only [List.getElem?_cons_zero, List.getElem?_cons_succ] at c
          clear h0 h20
          go_wp2
          go_meet
          case rel => exact Lib.hid (At.one HM.out HOK.out HPL.out HE2.out hwM 15 _ { g with rp := m } rfl (by decide) rfl rfl rfl rfl rfl rfl HOK.out.ss HOK.out.cs)
        · have c := HM.out.cell 19 (by simp)
          simp only [List.getElem?_cons_zero, List.getElem?_cons_succ] at c
          clear h0 h20
          go_wp2
          go_meet
          case rel => exact Lib.hid (At.one HM.out HOK.out HPL.out HE2.out hwM 19 _ { g with de := m } rfl (by decide) rfl rfl rfl rfl rfl rfl HOK.out.ss HOK.out.cs)
        · have c := HM.out.cell 22 (by simp)
          simp only [List.getElem?_cons_zero, List.getElem?_cons_succ] at c
          clear h0 h20
          go_wp2
          go_meet
          case rel => exact Lib.hid (At.one HM.out HOK.out HPL.out HE2.out hwM 22 _ { g with salt := str } rfl (by decide) rfl rfl rfl rfl rfl rfl HST.out HOK.out.cs)
        · have c := HM.out.cell 23 (by simp)
          simp only [List.getElem?_cons_zero, List.getElem?_cons_succ] at c
          clear h0 h20
          go_wp2
          go_meet
          case rel => exact Lib.hid (At.one HM.out HOK.out HPL.out HE2.out hwM 23 _ { g with cook := str } rfl (by decide) rfl rfl rfl rfl rfl rfl HOK.out.ss HST.out)
        · have c := HM.out.cell 25 (by simp)
          simp only [List.getElem?_cons_zero, List.getElem?_cons_succ] at c
          clear h0 h20
          go_wp2
          go_meet
          case rel => exact Lib.hid (At.ign (HM.out.ext (by repeat (first | exact Ext.refl _ | assumption | apply Ext.plus_ | apply Ext.alloc | apply Ext.drew))) (HOK.out.lift (by repeat (first | exact Ext.refl _ | assumption | apply Ext.plus_ | apply Ext.alloc | apply Ext.drew))) HPL.out (HE2.out.trans (by repeat (first | exact Ext.refl _ | assumption | apply Ext.plus_ | apply Ext.alloc | apply Ext.drew))) hwM _ ⟨#[97]⟩ str (Box.new _ _ _ _ (Nat.zero_le _) rfl) (by have := HM.out.lt; omega) (by decide) HST.out)
      case rest =>
        obtain ⟨g2, wl2, ig2, hB2, hk2, hE2⟩ := hcut.out
        go_upto_region 49 with fail
        refine wp_at fun Y hY => ?_
        rw [← hY] at hB2 hk2 hE2
        obtain ⟨z, hv, uv, x1, x2, x3, hO⟩ := hk2.overs
        have HV := Lib.hid hO
        have HE := Lib.hid hE2
        replace HM := Lib.hid hB2
        clear hY hO hB2 hk2 hE2 HE2 HOK HPL HST hcut
        refine act_at fun A0 hA0 => ?_
        have hsz : A0.tmps.size = 125 := by
          rw [hA0]
          rfl
        have hA13 : A0.tmps.getD 13 undef = .pointer (some ⟨M, 0, none⟩) := by
          rw [hA0]
          rfl
        have HA0 := Lib.hid hA0
        clear hA0
        apply wp_region_ext 8 [is (cv g2), is (.int .i64 z), is (cv g2), is (.int .i64 z), is (.bool true), is (.bool true), is (.bool true), is (.bool true)] (by kernel_rfl) (by kernel_rfl) rfl
        case hops =>
          simp only [List.take_succ_cons, List.take_zero]
          with_reducible refine xOps_cons ?_ ?_
          · with_reducible refine xop_un ?_ ?_
            · rfl
            · intro vs x F hF hd
              have e1 : F.tmps.getD 13 undef = .pointer (some ⟨M, 0, none⟩) := (hF.a 13 (by kernel_rfl) (by rw [hsz]; rfl)).trans hA13
              exact comes_load_box 27 (.tmp 13) rfl (HM.out.ext (by repeat (first | exact Ext.refl _ | assumption | apply Ext.plus_ | apply Ext.alloc | apply Ext.drew))) e1 Try.underlying27 rfl (by kernel_rfl)
          with_reducible refine xOps_cons ?_ ?_
          · with_reducible refine xop_un ?_ ?_
            · rfl
            · intro vs x F hF hd
              have e117 : F.tmps.getD 117 undef = cv g2 := (hF.v 117 0 (by kernel_rfl) (by rw [hsz]; rfl)).trans (dep_at hd 0 0 (is (cv g2)) (by kernel_rfl) (by kernel_rfl))
              clear hF hd
              simp only [comes]
              go_simp
              refine ((HV.out.V.out _ (by repeat (first | exact Ext.refl _ | assumption | apply Ext.plus_ | apply Ext.alloc | apply Ext.drew)))).mono ?_
              rintro e w' ⟨rfl, hE⟩
              first | exact ⟨_, rfl, hE, rfl⟩ | exact ⟨_, rfl, hE⟩ | exact ⟨rfl, hE⟩ | exact ⟨_, hE⟩ | exact hE
          with_reducible refine xOps_cons ?_ ?_
          · with_reducible refine xop_un ?_ ?_
            · rfl
            · intro vs x F hF hd
              have e1 : F.tmps.getD 13 undef = .pointer (some ⟨M, 0, none⟩) := (hF.a 13 (by kernel_rfl) (by rw [hsz]; rfl)).trans hA13
              exact comes_load_box 27 (.tmp 13) rfl (HM.out.ext (by repeat (first | exact Ext.refl _ | assumption | apply Ext.plus_ | apply Ext.alloc | apply Ext.drew))) e1 Try.underlying27 rfl (by kernel_rfl)
          with_reducible refine xOps_cons ?_ ?_
          · with_reducible refine xop_un ?_ ?_
            · rfl
            · intro vs x F hF hd
              have e119 : F.tmps.getD 119 undef = cv g2 := (hF.v 119 2 (by kernel_rfl) (by rw [hsz]; rfl)).trans (dep_at hd 0 2 (is (cv g2)) (by kernel_rfl) (by kernel_rfl))
              clear hF hd
              simp only [comes]
              go_simp
              refine ((HV.out.R.out _ (by repeat (first | exact Ext.refl _ | assumption | apply Ext.plus_ | apply Ext.alloc | apply Ext.drew)))).mono ?_
              rintro e w' ⟨rfl, hE⟩
              first | exact ⟨_, rfl, hE, rfl⟩ | exact ⟨_, rfl, hE⟩ | exact ⟨rfl, hE⟩ | exact ⟨_, hE⟩ | exact hE
          with_reducible refine xOps_cons ?_ ?_
          · with_reducible refine xop_un ?_ ?_
            · rfl
            · intro vs x F hF hd
              have e0 : F.tmps.getD 118 undef = .int .i64 z := (hF.v 118 1 (by kernel_rfl) (by rw [hsz]; rfl)).trans (dep_at hd 0 1 (is (.int .i64 z)) (by kernel_rfl) (by kernel_rfl))
              have e1 : F.tmps.getD 120 undef = .int .i64 z := (hF.v 120 3 (by kernel_rfl) (by rw [hsz]; rfl)).trans (dep_at hd 1 3 (is (.int .i64 z)) (by kernel_rfl) (by kernel_rfl))
              clear hF hd
              simp only [comes]
              go_simp
              first | exact ⟨Ext.refl _, rfl⟩ | exact Ext.refl _
          with_reducible refine xOps_cons ?_ ?_
          · with_reducible refine xop_un ?_ ?_
            · rfl
            · intro vs x F hF hd
              have e1 : F.tmps.getD 121 undef = .bool true := (hF.v 121 4 (by kernel_rfl) (by rw [hsz]; rfl)).trans (dep_at hd 0 4 (is (.bool true)) (by kernel_rfl) (by kernel_rfl))
              clear hF hd
              simp only [comes]
              go_simp
              first | exact ⟨Ext.refl _, rfl⟩ | exact Ext.refl _
          with_reducible refine xOps_cons ?_ ?_
          · with_reducible refine xop_on 5 122 5 1 ?_ ?_ ?_ ?_ ?_ ?_ ?_
            · rfl
            · kernel_rfl
            · kernel_rfl
            · rw [hsz]; rfl
            · kernel_rfl
            · kernel_rfl
            · intro vs x F hF hd
              clear hF hd
              simp only [comes]
              go_simp
              refine ((awake_any _)).mono ?_
              rintro e w' ⟨rfl, hE⟩
              first | exact ⟨_, rfl, hE, rfl⟩ | exact ⟨_, rfl, hE⟩ | exact ⟨rfl, hE⟩ | exact ⟨_, hE⟩ | exact hE
          with_reducible refine xOps_cons ?_ ?_
          · with_reducible refine xop_un ?_ ?_
            · rfl
            · intro vs x F hF hd
              have e1 : F.tmps.getD 122 undef = .bool true := (hF.v 122 5 (by kernel_rfl) (by rw [hsz]; rfl)).trans (dep_at hd 0 5 (is (.bool true)) (by kernel_rfl) (by kernel_rfl))
              have e2 : F.tmps.getD 123 undef = .bool true := (hF.v 123 6 (by kernel_rfl) (by rw [hsz]; rfl)).trans (dep_at hd 1 6 (is (.bool true)) (by kernel_rfl) (by kernel_rfl))
              clear hF hd
              simp only [comes]
              go_simp
              first | exact ⟨Ext.refl _, rfl⟩ | exact Ext.refl _
          exact xOps_nil
        case hst => exact ⟨is.st _, is.st _, is.st _, is.st _, is.st _, is.st _, is.st _, is.st _, trivial⟩
        case hfin =>
          intro vs x hf
          have f7 : vs 7 = .bool true := hf.2.2.2.2.2.2.2.1
          clear hf
          have hA0 := HA0.out
          subst hA0
          clear hsz hA13
          simp only [List.take_succ_cons, List.take_zero, List.drop_succ_cons, List.drop_zero, putAll, Act.put, List.setIfInBounds_toArray, List.set_cons_succ, List.set_cons_zero, Nat.zero_add, Nat.reduceAdd]
          clear HA0
          rw [f7]
          clear f7
          go_wp2
          go_ret
          exact ⟨rfl, HE.out.trans (by repeat (first | exact Ext.refl _ | assumption | apply Ext.plus_ | apply Ext.alloc | apply Ext.drew))⟩
  · clear HST
    go_upto_region 49 with fail
    refine wp_at fun Y hY => ?_
    rw [← hY] at HM HE1
    obtain ⟨z, hv, uv, x1, x2, x3, hO⟩ := (H0.out.lift HE1.out).overs
    have HV := Lib.hid hO
    have HE := Lib.hid HE1.out
    clear hY hO HE1 H0
    refine act_at fun A0 hA0 => ?_
    have hsz : A0.tmps.size = 125 := by
      rw [hA0]
      rfl
    have hA13 : A0.tmps.getD 13 undef = .pointer (some ⟨M, 0, none⟩) := by
      rw [hA0]
      rfl
    have HA0 := Lib.hid hA0
    clear hA0
    apply wp_region_ext 8 [is (cv c0), is (.int .i64 z), is (cv c0), is (.int .i64 z), is (.bool true), is (.bool true), is (.bool true), is (.bool true)] (by kernel_rfl) (by kernel_rfl) rfl
    case hops =>
      simp only [List.take_succ_cons, List.take_zero]
      with_reducible refine xOps_cons ?_ ?_
      · with_reducible refine xop_un ?_ ?_
        · rfl
        · intro vs x F hF hd
          have e1 : F.tmps.getD 13 undef = .pointer (some ⟨M, 0, none⟩) := (hF.a 13 (by kernel_rfl) (by rw [hsz]; rfl)).trans hA13
          exact comes_load_box 27 (.tmp 13) rfl (HM.out.ext (by repeat (first | exact Ext.refl _ | assumption | apply Ext.plus_ | apply Ext.alloc | apply Ext.drew))) e1 Try.underlying27 rfl (by kernel_rfl)
      with_reducible refine xOps_cons ?_ ?_
      · with_reducible refine xop_un ?_ ?_
        · rfl
        · intro vs x F hF hd
          have e117 : F.tmps.getD 117 undef = cv c0 := (hF.v 117 0 (by kernel_rfl) (by rw [hsz]; rfl)).trans (dep_at hd 0 0 (is (cv c0)) (by kernel_rfl) (by kernel_rfl))
          clear hF hd
          simp only [comes]
          go_simp
          refine ((HV.out.V.out _ (by repeat (first | exact Ext.refl _ | assumption | apply Ext.plus_ | apply Ext.alloc | apply Ext.drew)))).mono ?_
          rintro e w' ⟨rfl, hE⟩
          first | exact ⟨_, rfl, hE, rfl⟩ | exact ⟨_, rfl, hE⟩ | exact ⟨rfl, hE⟩ | exact ⟨_, hE⟩ | exact hE
      with_reducible refine xOps_cons ?_ ?_
      · with_reducible refine xop_un ?_ ?_
        · rfl
        · intro vs x F hF hd
          have e1 : F.tmps.getD 13 undef = .pointer (some ⟨M, 0, none⟩) := (hF.a 13 (by kernel_rfl) (by rw [hsz]; rfl)).trans hA13
          exact comes_load_box 27 (.tmp 13) rfl (HM.out.ext (by repeat (first | exact Ext.refl _ | assumption | apply Ext.plus_ | apply Ext.alloc | apply Ext.drew))) e1 Try.underlying27 rfl (by kernel_rfl)
      with_reducible refine xOps_cons ?_ ?_
      · with_reducible refine xop_un ?_ ?_
        · rfl
        · intro vs x F hF hd
          have e119 : F.tmps.getD 119 undef = cv c0 := (hF.v 119 2 (by kernel_rfl) (by rw [hsz]; rfl)).trans (dep_at hd 0 2 (is (cv c0)) (by kernel_rfl) (by kernel_rfl))
          clear hF hd
          simp only [comes]
          go_simp
          refine ((HV.out.R.out _ (by repeat (first | exact Ext.refl _ | assumption | apply Ext.plus_ | apply Ext.alloc | apply Ext.drew)))).mono ?_
          rintro e w' ⟨rfl, hE⟩
          first | exact ⟨_, rfl, hE, rfl⟩ | exact ⟨_, rfl, hE⟩ | exact ⟨rfl, hE⟩ | exact ⟨_, hE⟩ | exact hE
      with_reducible refine xOps_cons ?_ ?_
      · with_reducible refine xop_un ?_ ?_
        · rfl
        · intro vs x F hF hd
          have e0 : F.tmps.getD 118 undef = .int .i64 z := (hF.v 118 1 (by kernel_rfl) (by rw [hsz]; rfl)).trans (dep_at hd 0 1 (is (.int .i64 z)) (by kernel_rfl) (by kernel_rfl))
          have e1 : F.tmps.getD 120 undef = .int .i64 z := (hF.v 120 3 (by kernel_rfl) (by rw [hsz]; rfl)).trans (dep_at hd 1 3 (is (.int .i64 z)) (by kernel_rfl) (by kernel_rfl))
          clear hF hd
          simp only [comes]
          go_simp
          first | exact ⟨Ext.refl _, rfl⟩ | exact Ext.refl _
      with_reducible refine xOps_cons ?_ ?_
      · with_reducible refine xop_un ?_ ?_
        · rfl
        · intro vs x F hF hd
          have e1 : F.tmps.getD 121 undef = .bool true := (hF.v 121 4 (by kernel_rfl) (by rw [hsz]; rfl)).trans (dep_at hd 0 4 (is (.bool true)) (by kernel_rfl) (by kernel_rfl))
          clear hF hd
          simp only [comes]
          go_simp
          first | exact ⟨Ext.refl _, rfl⟩ | exact Ext.refl _
      with_reducible refine xOps_cons ?_ ?_
      · with_reducible refine xop_on 5 122 5 1 ?_ ?_ ?_ ?_ ?_ ?_ ?_
        · rfl
        · kernel_rfl
        · kernel_rfl
        · rw [hsz]; rfl
        · kernel_rfl
        · kernel_rfl
        · intro vs x F hF hd
          clear hF hd
          simp only [comes]
          go_simp
          refine ((awake_any _)).mono ?_
          rintro e w' ⟨rfl, hE⟩
          first | exact ⟨_, rfl, hE, rfl⟩ | exact ⟨_, rfl, hE⟩ | exact ⟨rfl, hE⟩ | exact ⟨_, hE⟩ | exact hE
      with_reducible refine xOps_cons ?_ ?_
      · with_reducible refine xop_un ?_ ?_
        · rfl
        · intro vs x F hF hd
          have e1 : F.tmps.getD 122 undef = .bool true := (hF.v 122 5 (by kernel_rfl) (by rw [hsz]; rfl)).trans (dep_at hd 0 5 (is (.bool true)) (by kernel_rfl) (by kernel_rfl))
          have e2 : F.tmps.getD 123 undef = .bool true := (hF.v 123 6 (by kernel_rfl) (by rw [hsz]; rfl)).trans (dep_at hd 1 6 (is (.bool true)) (by kernel_rfl) (by kernel_rfl))
          clear hF hd
          simp only [comes]
          go_simp
          first | exact ⟨Ext.refl _, rfl⟩ | exact Ext.refl _
      exact xOps_nil
    case hst => exact ⟨is.st _, is.st _, is.st _, is.st _, is.st _, is.st _, is.st _, is.st _, trivial⟩
    case hfin =>
      intro vs x hf
      have f7 : vs 7 = .bool true := hf.2.2.2.2.2.2.2.1
      clear hf
      have hA0 := HA0.out
      subst hA0
      clear hsz hA13
      simp only [List.take_succ_cons, List.take_zero, List.drop_succ_cons, List.drop_zero, putAll, Act.put, List.setIfInBounds_toArray, List.set_cons_succ, List.set_cons_zero, Nat.zero_add, Nat.reduceAdd]
      clear HA0
      rw [f7]
      clear f7
      go_wp2
      go_ret
      exact ⟨rfl, HE.out.trans (by repeat (first | exact Ext.refl _ | assumption | apply Ext.plus_ | apply Ext.alloc | apply Ext.drew))⟩
theorem law_cvalidate (v0 v1 v2 v3 v4 v5 : Value) (w : World) (p0 : ∃ A n c, ∃ l : List Int, v0 = .slice A n c ∧ ArgRow w A n c (l.map (Value.int .i64)) ∧ ∀ x ∈ l, I64 x)
    (p1 : ∃ (c : Cf) (wl : List Int) (ig : List ByteArray), v1 = cv c ∧ CfOK c w wl ig) (p2 : ∃ n, v2 = .int .i64 n ∧ I64 n) (p3 : ∃ n, v3 = .int .i64 n ∧ I64 n) (p4 : ∃ s : ByteArray, v4 = .string s ∧ s.size ≤ 9223372036854775807) (p5 : ∃ b, v5 = .bool b) :
    Calls Try.prog 3 #[v0, v1, v2, v3, v4, v5] w fun ee w' => ee = .returned (.bool true) ∧ Ext w w' := by
  obtain ⟨B, k, d, ll, rfl, ⟨hB, hkd, hdm, _⟩, _⟩ := p0
  obtain ⟨c, wl, ig, rfl, hc⟩ := p1
  obtain ⟨t, rfl, _⟩ := p2
  obtain ⟨q, rfl, _⟩ := p3
  obtain ⟨s, rfl, hs⟩ := p4
  obtain ⟨b, rfl⟩ := p5
  exact law_valid_core B k d ll c wl ig t q s b w hB (by omega) hc hs
end Go.Proofs.Ytlcopiepcpangaa
