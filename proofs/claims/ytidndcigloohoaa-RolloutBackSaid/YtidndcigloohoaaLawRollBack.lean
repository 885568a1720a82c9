/- RolloutBack: the walk. -/
import Derived.Test.YtidndcigloohoaaRollLoop
import Derived.Test.YtidndcigloohoaaOpenRoll
import Derived.Deep.CutRange
set_option linter.unusedVariables false
namespace Go.Proofs.Ytidndcigloohoaa
open Go.RowKit Go.Rg

theorem back_fail {l : List Int} {mi nu de ho wi s g h t e a x y : Int} (h1 : s = 1) (h2 : x = 1) (ha : 0 ≤ a) (h3 : wi ≤ a + 1) (h4 : vd l mi nu de ho wi t e = 3) : (stepR l mi nu de ho wi ⟨s, g, h, t, e, a⟩ x y).s = 3 := by
  subst h1 h2
  have h5 : wi ≤ max a 0 + 1 := by omega
  simp only [stepR, if_true, tickR, h4, h5]
  rfl
theorem back_keep {l : List Int} {mi nu de ho wi s g h t e a x y : Int} (h1 : s = 3) (h2 : ¬ (x = 4 ∧ y = 6)) : (stepR l mi nu de ho wi ⟨s, g, h, t, e, a⟩ x y).s = 3 := by
  subst h1
  by_cases h4 : x = 4
  · subst h4
    have h6 : ¬ y = 6 := fun h => h2 ⟨rfl, h⟩
    by_cases e1 : y = 1
    · subst e1; simp [stepR, cmdR]
    by_cases e2 : y = 2
    · subst e2; simp [stepR, cmdR]
    by_cases e3 : y = 3
    · subst e3; simp [stepR, cmdR]
    by_cases e4 : y = 4
    · subst e4; simp [stepR, cmdR]
    by_cases e5 : y = 5
    · subst e5; simp [stepR, cmdR]
    · simp [stepR, cmdR, e1, e2, e3, e4, e5, h6]
  · by_cases e1 : x = 1
    · subst e1; simp [stepR, tickR]
    by_cases e2 : x = 2
    · subst e2; simp [stepR, obsR]
    by_cases e3 : x = 3
    · subst e3; simp [stepR, obsR]
    · simp [stepR, e1, e2, e3, h4]

set_option maxRecDepth 100000 in
set_option maxHeartbeats 4000000 in
theorem rback_go (B : Option Addr) (k d : Nat) (ll : List Int) (M : Option Addr) (mk md : Nat) (ml : List Int) (w : World) (hB : Row w w.heap.size 1 B k (ints ll)) (hk : k ≤ 9223372036854775807)
    (hM : Row w w.heap.size 1 M mk (ints ml)) (hmk : mk ≤ 9223372036854775807) (hmd : mk ≤ md) :
    Calls Try.prog 5 #[.slice B k d, .slice M mk md] w fun ee w' => ee = .returned (.bool true) ∧ Ext w w' := by
  go_enter Try.func5, Try.ntmps5
  go_wp2_with fail
  refine (made_any B k d ll M mk md ml _ (hB.lift (by repeat (first | exact Ext.refl _ | assumption | apply Ext.plus_ | apply Ext.alloc | apply Ext.drew))) hk (hM.lift (by repeat (first | exact Ext.refl _ | assumption | apply Ext.plus_ | apply Ext.alloc | apply Ext.drew))) hmk hmd).mono ?_
  rintro ee X ⟨A, c, wl, mi, nu, de, ho, wi, I, id', il, rfl, hsm, hc, hR, hIR, hil, hE⟩
  obtain ⟨P, hP⟩ : ∃ P, P = X.heap.size := ⟨_, rfl⟩
  rw [← hP] at hR hIR
  have hwP : w.heap.size ≤ P := by rw [hP]; exact hE.size
  have H := Lib.hid (And.intro hE (And.intro hR (And.intro hIR hP)))
  have HM := Lib.hid hsm
  clear hB hM hE hR hIR hsm hP
  go_wp2
  refine wp_at fun W hW => ?_
  obtain ⟨hE, hR, hIR, hP⟩ := H.out
  have hB1 : Box P (pcells A wl.length c mi nu de ho wi) P W := by
    rw [hW]
    repeat' (first | with_reducible assumption | ((with_reducible refine Box.fresh ?fb ?fn ?fr); (case fb => first | omega | (simp <;> omega)); (case fn => first | omega | (simp <;> omega)); (case fr => rfl)) | with_reducible apply Box.up | with_reducible apply Box.drew_ | with_reducible apply Box.drewN_ | with_reducible apply Box.plus_ | with_reducible apply Box.put | with_reducible refine Box.off ?_ (by omega))
    all_goals first | rfl | (simp; done)
  have hB2 : Box P (rcells ⟨0, 0, 0, 0, 0, 0⟩) (P + 1) W := by
    rw [hW]
    repeat' (first | with_reducible assumption | ((with_reducible refine Box.fresh ?fb ?fn ?fr); (case fb => first | omega | (simp <;> omega)); (case fn => first | omega | (simp <;> omega)); (case fr => rfl)) | with_reducible apply Box.up | with_reducible apply Box.drew_ | with_reducible apply Box.drewN_ | with_reducible apply Box.plus_ | with_reducible apply Box.put | with_reducible refine Box.off ?_ (by omega))
    all_goals first | rfl | (simp; done)
  replace hE : Ext w W := by
    rw [hW]
    repeat' (first | with_reducible assumption | with_reducible exact Ext.refl _ | with_reducible apply Ext.alloc | with_reducible apply Ext.drew | with_reducible apply Ext.drewN | with_reducible apply Ext.plus_ | with_reducible refine Ext.put ?_ (by omega))
  replace hR : Row W P 1 A wl.length (ints wl) := by
    rw [hW]
    repeat' (first | with_reducible assumption | with_reducible refine Row.put ?_ (by omega) | with_reducible refine Row.up_ ?_ (by first | omega | (simp <;> omega)) _ | with_reducible refine Row.plus_ ?_ (by first | omega | (simp <;> omega)) _ | with_reducible apply Row.drew)
  replace hIR : Row W P 2 I il.length (icells il) := by
    rw [hW]
    repeat' (first | with_reducible assumption | with_reducible refine Row.put ?_ (by omega) | with_reducible refine Row.up_ ?_ (by first | omega | (simp <;> omega)) _ | with_reducible refine Row.plus_ ?_ (by first | omega | (simp <;> omega)) _ | with_reducible apply Row.drew)
  rw [← hP]
  clear hW hP H
  have hst : St w W P A wl c mi nu de ho wi I il (P + 1) ⟨0, 0, 0, 0, 0, 0⟩ := ⟨hE, hB1, hB2, hR, hIR⟩
  clear hE hB1 hB2 hR hIR
  go_loopg [8, 9] il.length (fun gk s8 i wr => ∃ (q : Nat) (r : Ro) (bk : Bool), q ≤ il.length ∧ gk = il.length - q ∧ s8 = .bool bk ∧ i = .int .i64 q ∧ Hid (r = runR wl mi nu de ho wi il q) ∧ Hid (St w wr P A wl c mi nu de ho wi I il (P + 1) r) ∧ Hid (bk = true → r.s = 3))
  case atStart => exact ⟨0, _, false, Nat.zero_le _, rfl, rfl, rfl, Lib.hid rfl, Lib.hid hst, Lib.hid (fun h => by cases h)⟩
  case round =>
    clear hst
    obtain ⟨q, ⟨s, g, h, t, e, a⟩, bk, hq, hgk, rfl, rfl, hid, hst, hbk⟩ := hrel
    replace hst := hst.out
    have hE := hst.e
    have hB1 := hst.b1
    have hB2 := hst.b2
    have hR := hst.r
    have hIR := hst.ir
    have p0 := hB1.cell 0 (by simp)
    have p1 := hB1.cell 1 (by simp)
    have p2 := hB1.cell 2 (by simp)
    have p3 := hB1.cell 3 (by simp)
    have p4 := hB1.cell 4 (by simp)
    have p5 := hB1.cell 5 (by simp)
    simp only [List.getElem?_cons_zero, List.getElem?_cons_succ] at p0 p1 p2 p3 p4 p5
    have pF := hB1.free
    have pL := hB1.lt
    have pB := hB1.base
    have r0 := hB2.cell 0 (by simp)
    have r1 := hB2.cell 1 (by simp)
    have r2 := hB2.cell 2 (by simp)
    have r3 := hB2.cell 3 (by simp)
    have r4 := hB2.cell 4 (by simp)
    have r5 := hB2.cell 5 (by simp)
    simp only [List.getElem?_cons_zero, List.getElem?_cons_succ] at r0 r1 r2 r3 r4 r5
    have rF := hB2.free
    have rL := hB2.lt
    have rB := hB2.base
    by_cases hlt : q < il.length
    · obtain ⟨b, o, kx, ky, rfl, hb, hz, c0, c1⟩ := Row.inp_at hIR hlt
      have hI := inv_run HM.out.ok il q
      have hA := age_run (l := wl) (mi := mi) (nu := nu) (de := de) (ho := ho) HM.out.ok.wi1 il q
      have hS := runR_succ (l := wl) (mi := mi) (nu := nu) (de := de) (ho := ho) (wi := wi) hz
      rw [← hid.out] at hI hS hA
      obtain ⟨ha1, ha2⟩ := hA
      simp only at ha1 ha2
      have hw4 := HM.out.wi4
      have C := Lib.hid (fun W hW => step_any A wl.length c wl mi nu de ho wi ⟨s, g, h, t, e, a⟩ kx ky W hW hc HM.out.ok hI)
      have CV := Lib.hid (fun W hW => verdict_any A wl.length c wl mi nu de ho wi t e a W hW hc (by have := HM.out.n3; omega))
      have F1 : s = 1 → kx = 1 → wi ≤ a + 1 → vd wl mi nu de ho wi t e = 3 → (stepR wl mi nu de ho wi ⟨s, g, h, t, e, a⟩ kx ky).s = 3 := fun h1 h2 h3 h4 => back_fail h1 h2 ha1 h3 h4
      have F2 : s = 3 → ¬ (kx = 4 ∧ ky = 6) → (stepR wl mi nu de ho wi ⟨s, g, h, t, e, a⟩ kx ky).s = 3 := fun h1 h2 => back_keep h1 h2
      obtain ⟨⟨s', g', h', t', e', a'⟩, hrr⟩ : ∃ rr, rr = stepR wl mi nu de ho wi ⟨s, g, h, t, e, a⟩ kx ky := ⟨_, rfl⟩
      obtain ⟨v, hv⟩ : ∃ v, v = vd wl mi nu de ho wi t e := ⟨_, rfl⟩
      rw [← hrr] at C hS F1 F2
      rw [← hv] at CV F1
      simp only at F1 F2
      have HF := Lib.hid (And.intro F1 F2)
      have HS := Lib.hid hS
      have HT := Lib.hid hst
      have HG := Lib.hid hgk
      clear hI hS hE hB1 hB2 hR hIR hst hz hrr F1 F2 hv hid hgk
      go_upto_region 7 with fail
      go_cut [10] from 18 to 96 (fun s10 wx => ∃ f : Bool, s10 = .bool f ∧ Ext wr wx ∧ Hid (f = true → s' = 3))
      case first =>
        have HR := Lib.hid HT.out.r_
        by_cases h1 : s = 1
        · subst h1
          by_cases h2 : kx = 1
          · subst h2
            by_cases h3 : wi ≤ a + 1
            · have HF1 := Lib.hid (HF.out.1 rfl rfl h3)
              go_wp2_with fail
              refine (CV.out _ (HR.out.lift (by repeat (first | exact Ext.refl _ | assumption | apply Ext.plus_ | apply Ext.alloc | apply Ext.drew)))).mono ?_
              rintro ee V ⟨rfl, hE⟩
              by_cases h4 : v = 3
              · subst h4
                go_wp2_with fail
                go_meet
                case rel => exact ⟨true, rfl, hE, Lib.hid (fun _ => HF1.out (by trivial))⟩
              · have h5 : (v == 3) = false := by simp [h4]
                go_wp2_with fail
                go_meet
                case rel => exact ⟨false, rfl, hE, Lib.hid (fun h => by cases h)⟩
            · go_wp2_with fail
              go_meet
              case rel => exact ⟨false, rfl, Ext.refl _, Lib.hid (fun h => by cases h)⟩
          · have h5 : (kx == 1) = false := by simp [h2]
            go_wp2_with fail
            go_meet
            case rel => exact ⟨false, rfl, Ext.refl _, Lib.hid (fun h => by cases h)⟩
        · have h5 : (s == 1) = false := by simp [h1]
          go_wp2_with fail
          go_meet
          case rel => exact ⟨false, rfl, Ext.refl _, Lib.hid (fun h => by cases h)⟩
      case rest =>
        obtain ⟨f, rfl, hEx, hf⟩ := hcut
        have hst := HT.out.ext hEx
        replace c0 := hEx.cell c0
        replace c1 := hEx.cell c1
        clear hEx HT
        clear p0 p1 p2 p3 p4 p5 pF pL pB
        clear r0 r1 r2 r3 r4 r5 rF rL rB
        have hB1 := hst.b1
        have hB2 := hst.b2
        have p0 := hB1.cell 0 (by simp)
        have p1 := hB1.cell 1 (by simp)
        have p2 := hB1.cell 2 (by simp)
        have p3 := hB1.cell 3 (by simp)
        have p4 := hB1.cell 4 (by simp)
        have p5 := hB1.cell 5 (by simp)
        simp only [List.getElem?_cons_zero, List.getElem?_cons_succ] at p0 p1 p2 p3 p4 p5
        have pF := hB1.free
        have pL := hB1.lt
        have pB := hB1.base
        have r0 := hB2.cell 0 (by simp)
        have r1 := hB2.cell 1 (by simp)
        have r2 := hB2.cell 2 (by simp)
        have r3 := hB2.cell 3 (by simp)
        have r4 := hB2.cell 4 (by simp)
        have r5 := hB2.cell 5 (by simp)
        simp only [List.getElem?_cons_zero, List.getElem?_cons_succ] at r0 r1 r2 r3 r4 r5
        have rF := hB2.free
        have rL := hB2.lt
        have rB := hB2.base
        clear hB1 hB2
        have HT := Lib.hid hst
        have HR := Lib.hid hst.r_
        clear hst
        go_wp2_with fail
        apply wp_region_ext 8 [is _, is _, is _, is _, is _, is _, is (rv ⟨s', g', h', t', e', a'⟩), isBox wc.heap.size [.int .i64 0, .int .i64 0, .int .i64 0, .int .i64 0, .int .i64 0, .int .i64 0]] (by kernel_rfl) (by kernel_rfl) rfl
        case hops =>
          simp only [List.take_succ_cons, List.take_zero]
          refine ⟨?_, ?_, ?_, ?_, ?_, ?_, ?_, ?_, trivial⟩
          all_goals
            intro vs x hd
            simp only [putAll, Act.put, List.setIfInBounds_toArray, List.set_cons_succ, List.set_cons_zero, Nat.zero_add, Nat.reduceAdd]
            simp [depFacts, is, isRow, isRowN, isBox, dataE] at hd
            try simp only [World.plus_plus] at hd
            simp only [Region.wanted, if_true, comes]
            try simp [yielded, hd, comes]
            go_simp
            try go_bits
            first
              | exact ⟨Ext.refl _, rfl⟩
              | exact rfl
              | exact ⟨(Ext.refl _).alloc _, _, rfl, Cells.new _ _ _ _ rfl⟩
              | exact ⟨(Ext.refl _).alloc _, _, rfl, Box.new _ _ _ _ (by simp [World.le_plus]) rfl⟩
              | (refine (C.out _ (HR.out.lift (by repeat (first | exact Ext.refl _ | assumption | apply Ext.plus_ | apply Ext.alloc | apply Ext.drew)))).mono ?_; rintro e w' ⟨rfl, hE⟩; exact ⟨_, rfl, hE, rfl⟩)
        case hst => exact ⟨(by apply is.st), (by apply is.st), (by apply is.st), (by apply is.st), (by apply is.st), (by apply is.st), (by apply is.st), (by apply isBox.st), trivial⟩
        case hfin =>
          intro vs x hf
          try simp only [World.plus_plus] at hf ⊢
          simp only [List.take_succ_cons, List.take_zero, List.drop_succ_cons, List.drop_zero, putAll, Act.put, List.setIfInBounds_toArray, List.set_cons_succ, List.set_cons_zero]
          simp only [facts, is, Nat.zero_add, Nat.reduceAdd] at hf
          have f7 := hf.2.2.2.2.2.2.2.1
          simp only [Nat.zero_add, Nat.reduceAdd, hf]
          clear hf
          obtain ⟨b3, hv3, hB3⟩ := f7
          simp only [hv3]
          refine wl_at fun Y hY => ?_
          rw [← hY] at hB3
          have hEY : Ext wc Y := by
            rw [hY]
            exact (Ext.refl wc).plus_ _
          have hst := HT.out.ext hEY
          replace c0 := hEY.cell c0
          replace c1 := hEY.cell c1
          have hb3 : P + 1 < b3 := by
            have h1 := hB3.base
            have h2 := HT.out.b2.lt
            omega
          replace hB3 := Box.rebase hB3 (show P ≤ b3 by omega)
          clear hv3 hY hEY HT HR
          clear p0 p1 p2 p3 p4 p5 pF pL pB
          clear r0 r1 r2 r3 r4 r5 rF rL rB
          have hB1 := hst.b1
          have hB2 := hst.b2
          have p0 := hB1.cell 0 (by simp)
          have p1 := hB1.cell 1 (by simp)
          have p2 := hB1.cell 2 (by simp)
          have p3 := hB1.cell 3 (by simp)
          have p4 := hB1.cell 4 (by simp)
          have p5 := hB1.cell 5 (by simp)
          simp only [List.getElem?_cons_zero, List.getElem?_cons_succ] at p0 p1 p2 p3 p4 p5
          have pF := hB1.free
          have pL := hB1.lt
          have pB := hB1.base
          have r0 := hB2.cell 0 (by simp)
          have r1 := hB2.cell 1 (by simp)
          have r2 := hB2.cell 2 (by simp)
          have r3 := hB2.cell 3 (by simp)
          have r4 := hB2.cell 4 (by simp)
          have r5 := hB2.cell 5 (by simp)
          simp only [List.getElem?_cons_zero, List.getElem?_cons_succ] at r0 r1 r2 r3 r4 r5
          have rF := hB2.free
          have rL := hB2.lt
          have rB := hB2.base
          clear hB1 hB2
          have o0 := hB3.cell 0 (by simp)
          have o1 := hB3.cell 1 (by simp)
          have o2 := hB3.cell 2 (by simp)
          have o3 := hB3.cell 3 (by simp)
          have o4 := hB3.cell 4 (by simp)
          have o5 := hB3.cell 5 (by simp)
          simp only [List.getElem?_cons_zero, List.getElem?_cons_succ] at o0 o1 o2 o3 o4 o5
          have oF := hB3.free
          have oL := hB3.lt
          have oB := hB3.base
          have HT := Lib.hid (And.intro hst hB3)
          clear hst hB3
          go_upto_region 9 with fail
          refine wp_at fun V hV => ?_
          obtain ⟨hst, hB3⟩ := HT.out
          have hst : St w V P A wl c mi nu de ho wi (some ⟨b, o, none⟩) il (P + 1) ⟨s, g, h, t, e, a⟩ := by
            obtain ⟨hE, hB1, hB2, hR, hIR⟩ := hst
            rw [hV]
            refine ⟨?_, ?_, ?_, ?_, ?_⟩
            · repeat' (first | with_reducible assumption | with_reducible exact Ext.refl _ | with_reducible apply Ext.alloc | with_reducible apply Ext.drew | with_reducible apply Ext.drewN | with_reducible apply Ext.plus_ | with_reducible refine Ext.put ?_ (by omega))
            · repeat' (first | with_reducible assumption | ((with_reducible refine Box.fresh ?fb ?fn ?fr); (case fb => first | omega | (simp <;> omega)); (case fn => first | omega | (simp <;> omega)); (case fr => rfl)) | with_reducible apply Box.up | with_reducible apply Box.drew_ | with_reducible apply Box.drewN_ | with_reducible apply Box.plus_ | with_reducible apply Box.put | with_reducible refine Box.off ?_ (by omega))
              all_goals first | rfl | (simp; done)
            · repeat' (first | with_reducible assumption | ((with_reducible refine Box.fresh ?fb ?fn ?fr); (case fb => first | omega | (simp <;> omega)); (case fn => first | omega | (simp <;> omega)); (case fr => rfl)) | with_reducible apply Box.up | with_reducible apply Box.drew_ | with_reducible apply Box.drewN_ | with_reducible apply Box.plus_ | with_reducible apply Box.put | with_reducible refine Box.off ?_ (by omega))
              all_goals first | rfl | (simp; done)
            · repeat' (first | with_reducible assumption | with_reducible refine Row.put ?_ (by omega) | with_reducible refine Row.up_ ?_ (by first | omega | (simp <;> omega)) _ | with_reducible refine Row.plus_ ?_ (by first | omega | (simp <;> omega)) _ | with_reducible apply Row.drew)
            · repeat' (first | with_reducible assumption | with_reducible refine Row.put ?_ (by omega) | with_reducible refine Row.up_ ?_ (by first | omega | (simp <;> omega)) _ | with_reducible refine Row.plus_ ?_ (by first | omega | (simp <;> omega)) _ | with_reducible apply Row.drew)
          replace hB3 : Box P (rcells ⟨s', g', h', t', e', a'⟩) b3 V := by
            rw [hV]
            repeat' (first | with_reducible assumption | ((with_reducible refine Box.fresh ?fb ?fn ?fr); (case fb => first | omega | (simp <;> omega)); (case fn => first | omega | (simp <;> omega)); (case fr => rfl)) | with_reducible apply Box.up | with_reducible apply Box.drew_ | with_reducible apply Box.drewN_ | with_reducible apply Box.plus_ | with_reducible apply Box.put | with_reducible refine Box.off ?_ (by omega))
            all_goals first | rfl | (simp; done)
          replace c0 : V.cell? ⟨b, o + q * 2, none⟩ = some (.int .i64 kx) := by
            rw [hV]
            repeat' (first | with_reducible assumption | with_reducible refine cell_off ?_ (by omega))
          replace c1 : V.cell? ⟨b, o + q * 2 + 1, none⟩ = some (.int .i64 ky) := by
            rw [hV]
            repeat' (first | with_reducible assumption | with_reducible refine cell_off ?_ (by omega))
          clear hV HT
          clear o0 o1 o2 o3 o4 o5 oF oL oB
          clear p0 p1 p2 p3 p4 p5 pF pL pB
          clear r0 r1 r2 r3 r4 r5 rF rL rB
          have hB1 := hst.b1
          have hB2 := hst.b2
          have p0 := hB1.cell 0 (by simp)
          have p1 := hB1.cell 1 (by simp)
          have p2 := hB1.cell 2 (by simp)
          have p3 := hB1.cell 3 (by simp)
          have p4 := hB1.cell 4 (by simp)
          have p5 := hB1.cell 5 (by simp)
          simp only [List.getElem?_cons_zero, List.getElem?_cons_succ] at p0 p1 p2 p3 p4 p5
          have pF := hB1.free
          have pL := hB1.lt
          have pB := hB1.base
          have r0 := hB2.cell 0 (by simp)
          have r1 := hB2.cell 1 (by simp)
          have r2 := hB2.cell 2 (by simp)
          have r3 := hB2.cell 3 (by simp)
          have r4 := hB2.cell 4 (by simp)
          have r5 := hB2.cell 5 (by simp)
          simp only [List.getElem?_cons_zero, List.getElem?_cons_succ] at r0 r1 r2 r3 r4 r5
          have rF := hB2.free
          have rL := hB2.lt
          have rB := hB2.base
          clear hB1 hB2
          have o0 := hB3.cell 0 (by simp)
          have o1 := hB3.cell 1 (by simp)
          have o2 := hB3.cell 2 (by simp)
          have o3 := hB3.cell 3 (by simp)
          have o4 := hB3.cell 4 (by simp)
          have o5 := hB3.cell 5 (by simp)
          simp only [List.getElem?_cons_zero, List.getElem?_cons_succ] at o0 o1 o2 o3 o4 o5
          have oF := hB3.free
          have oL := hB3.lt
          have oB := hB3.base
          have HT := Lib.hid (And.intro hst hB3)
          clear hst hB3
          go_cut [63] from 18 to 96 (fun s63 wx => s63 = .bool false ∧ wx = V)
          case first =>
            cases f
            · go_wp2_with fail
              go_meet
              case rel => exact ⟨rfl, rfl⟩
            · have hs3 := hf.out rfl
              subst hs3
              go_wp2_with fail
              go_meet
              case rel => exact ⟨rfl, rfl⟩
          case rest =>
          obtain ⟨rfl, rfl⟩ := hcut
          go_upto_region 11 with fail
          go_cut [8] from 18 to 96 (fun s8 wx => ∃ f2 : Bool, s8 = .bool f2 ∧ wx = wc ∧ Hid (f2 = true → s' = 3 ∨ (kx = 4 ∧ ky = 6)))
          case first =>
            cases bk
            · by_cases h1 : s' = 3
              · subst h1
                go_wp2_with fail
                go_meet
                case rel => exact ⟨true, rfl, rfl, Lib.hid (fun _ => .inl (by trivial))⟩
              · have h5 : (s' == 3) = false := by simp [h1]
                go_wp2_with fail
                go_meet
                case rel => exact ⟨false, rfl, rfl, Lib.hid (fun h => by cases h)⟩
            · go_wp2_with fail
              go_meet
              case rel => exact ⟨true, rfl, rfl, Lib.hid (fun _ => by
                by_cases h6 : kx = 4 ∧ ky = 6
                · exact .inr h6
                · exact .inl (HF.out.2 (hbk.out (by trivial)) h6))⟩
          case rest =>
          obtain ⟨f2, rfl, rfl, hf2⟩ := hcut
          go_upto_region 12 with fail
          go_cut [83] from 18 to 96 (fun s83 wx => ∃ rs : Bool, s83 = .bool rs ∧ wx = wc ∧ Hid (rs = false → ¬ (kx = 4 ∧ ky = 6)))
          case first =>
            by_cases h1 : kx = 4
            · subst h1
              by_cases h2 : ky = 6
              · subst h2
                go_wp2_with fail
                go_meet
                case rel => exact ⟨true, rfl, rfl, Lib.hid (fun h => by cases h)⟩
              · have h5 : (ky == 6) = false := by simp [h2]
                go_wp2_with fail
                go_meet
                case rel => exact ⟨false, rfl, rfl, Lib.hid (fun _ h => h2 h.2)⟩
            · have h5 : (kx == 4) = false := by simp [h1]
              go_wp2_with fail
              go_meet
              case rel => exact ⟨false, rfl, rfl, Lib.hid (fun _ h => h1 h.1)⟩
          case rest =>
          obtain ⟨rs, rfl, rfl, hrs⟩ := hcut
          cases rs
          · cases f2
            · go_wp2_with fail
              go_roundg (il.length - (q + 1))
              case measure =>
                have := HG.out
                omega
              case rel =>
                obtain ⟨hE, hB1, hB2, hR, hIR⟩ := HT.out.1
                refine ⟨q + 1, ⟨s', g', h', t', e', a'⟩, false, by omega, rfl, rfl, by go_num, Lib.hid HS.out.symm, Lib.hid ⟨?_, ?_, ?_, ?_, ?_⟩, Lib.hid (fun h => by cases h)⟩
                · repeat' (first | with_reducible assumption | with_reducible exact Ext.refl _ | with_reducible apply Ext.alloc | with_reducible apply Ext.drew | with_reducible apply Ext.drewN | with_reducible apply Ext.plus_ | with_reducible refine Ext.put ?_ (by omega))
                · repeat' (first | with_reducible assumption | ((with_reducible refine Box.fresh ?fb ?fn ?fr); (case fb => first | omega | (simp <;> omega)); (case fn => first | omega | (simp <;> omega)); (case fr => rfl)) | with_reducible apply Box.up | with_reducible apply Box.drew_ | with_reducible apply Box.drewN_ | with_reducible apply Box.plus_ | with_reducible apply Box.put | with_reducible refine Box.off ?_ (by omega))
                  all_goals first | rfl | (simp; done)
                · repeat' (first | with_reducible assumption | ((with_reducible refine Box.fresh ?fb ?fn ?fr); (case fb => first | omega | (simp <;> omega)); (case fn => first | omega | (simp <;> omega)); (case fr => rfl)) | with_reducible apply Box.up | with_reducible apply Box.drew_ | with_reducible apply Box.drewN_ | with_reducible apply Box.plus_ | with_reducible apply Box.put | with_reducible refine Box.off ?_ (by omega))
                  all_goals first | rfl | (simp; done)
                · repeat' (first | with_reducible assumption | with_reducible refine Row.put ?_ (by omega) | with_reducible refine Row.up_ ?_ (by first | omega | (simp <;> omega)) _ | with_reducible refine Row.plus_ ?_ (by first | omega | (simp <;> omega)) _ | with_reducible apply Row.drew)
                · repeat' (first | with_reducible assumption | with_reducible refine Row.put ?_ (by omega) | with_reducible refine Row.up_ ?_ (by first | omega | (simp <;> omega)) _ | with_reducible refine Row.plus_ ?_ (by first | omega | (simp <;> omega)) _ | with_reducible apply Row.drew)
            · have hs3 : s' = 3 := by
                rcases hf2.out rfl with h | h
                · exact h
                · exact absurd h (hrs.out rfl)
              subst hs3
              have CW := Lib.hid (fun W h => rweight_any A wl.length c wl mi nu de ho wi ⟨3, g', h', t', e', a'⟩ W h hc (by have := HM.out.n3; omega))
              rw [show weightR wl mi nu de ho wi ⟨3, g', h', t', e', a'⟩ = 0 by simp [weightR]] at CW
              go_wp2_with fail
              refine (CW.out _ (HT.out.1.r_)).mono ?_
              rintro ee Z ⟨rfl, hEZ⟩
              have hst := HT.out.1.ext hEZ
              have hB3 := HT.out.2.ext hEZ
              clear HT hEZ CW
              clear o0 o1 o2 o3 o4 o5 oF oL oB
              clear p0 p1 p2 p3 p4 p5 pF pL pB
              clear r0 r1 r2 r3 r4 r5 rF rL rB
              have hB1 := hst.b1
              have hB2 := hst.b2
              have p0 := hB1.cell 0 (by simp)
              have p1 := hB1.cell 1 (by simp)
              have p2 := hB1.cell 2 (by simp)
              have p3 := hB1.cell 3 (by simp)
              have p4 := hB1.cell 4 (by simp)
              have p5 := hB1.cell 5 (by simp)
              simp only [List.getElem?_cons_zero, List.getElem?_cons_succ] at p0 p1 p2 p3 p4 p5
              have pF := hB1.free
              have pL := hB1.lt
              have pB := hB1.base
              have r0 := hB2.cell 0 (by simp)
              have r1 := hB2.cell 1 (by simp)
              have r2 := hB2.cell 2 (by simp)
              have r3 := hB2.cell 3 (by simp)
              have r4 := hB2.cell 4 (by simp)
              have r5 := hB2.cell 5 (by simp)
              simp only [List.getElem?_cons_zero, List.getElem?_cons_succ] at r0 r1 r2 r3 r4 r5
              have rF := hB2.free
              have rL := hB2.lt
              have rB := hB2.base
              clear hB1 hB2
              have o0 := hB3.cell 0 (by simp)
              have o1 := hB3.cell 1 (by simp)
              have o2 := hB3.cell 2 (by simp)
              have o3 := hB3.cell 3 (by simp)
              have o4 := hB3.cell 4 (by simp)
              have o5 := hB3.cell 5 (by simp)
              simp only [List.getElem?_cons_zero, List.getElem?_cons_succ] at o0 o1 o2 o3 o4 o5
              have oF := hB3.free
              have oL := hB3.lt
              have oB := hB3.base
              have HT := Lib.hid (And.intro hst hB3)
              clear hst hB3
              go_wp2_with fail
              go_roundg (il.length - (q + 1))
              case measure =>
                have := HG.out
                omega
              case rel =>
                obtain ⟨hE, hB1, hB2, hR, hIR⟩ := HT.out.1
                refine ⟨q + 1, ⟨3, g', h', t', e', a'⟩, true, by omega, rfl, rfl, by go_num, Lib.hid HS.out.symm, Lib.hid ⟨?_, ?_, ?_, ?_, ?_⟩, Lib.hid (fun _ => rfl)⟩
                · repeat' (first | with_reducible assumption | with_reducible exact Ext.refl _ | with_reducible apply Ext.alloc | with_reducible apply Ext.drew | with_reducible apply Ext.drewN | with_reducible apply Ext.plus_ | with_reducible refine Ext.put ?_ (by omega))
                · repeat' (first | with_reducible assumption | ((with_reducible refine Box.fresh ?fb ?fn ?fr); (case fb => first | omega | (simp <;> omega)); (case fn => first | omega | (simp <;> omega)); (case fr => rfl)) | with_reducible apply Box.up | with_reducible apply Box.drew_ | with_reducible apply Box.drewN_ | with_reducible apply Box.plus_ | with_reducible apply Box.put | with_reducible refine Box.off ?_ (by omega))
                  all_goals first | rfl | (simp; done)
                · repeat' (first | with_reducible assumption | ((with_reducible refine Box.fresh ?fb ?fn ?fr); (case fb => first | omega | (simp <;> omega)); (case fn => first | omega | (simp <;> omega)); (case fr => rfl)) | with_reducible apply Box.up | with_reducible apply Box.drew_ | with_reducible apply Box.drewN_ | with_reducible apply Box.plus_ | with_reducible apply Box.put | with_reducible refine Box.off ?_ (by omega))
                  all_goals first | rfl | (simp; done)
                · repeat' (first | with_reducible assumption | with_reducible refine Row.put ?_ (by omega) | with_reducible refine Row.up_ ?_ (by first | omega | (simp <;> omega)) _ | with_reducible refine Row.plus_ ?_ (by first | omega | (simp <;> omega)) _ | with_reducible apply Row.drew)
                · repeat' (first | with_reducible assumption | with_reducible refine Row.put ?_ (by omega) | with_reducible refine Row.up_ ?_ (by first | omega | (simp <;> omega)) _ | with_reducible refine Row.plus_ ?_ (by first | omega | (simp <;> omega)) _ | with_reducible apply Row.drew)
          · go_wp2_with fail
            go_roundg (il.length - (q + 1))
            case measure =>
              have := HG.out
              omega
            case rel =>
              obtain ⟨hE, hB1, hB2, hR, hIR⟩ := HT.out.1
              refine ⟨q + 1, ⟨s', g', h', t', e', a'⟩, false, by omega, rfl, rfl, by go_num, Lib.hid HS.out.symm, Lib.hid ⟨?_, ?_, ?_, ?_, ?_⟩, Lib.hid (fun h => by cases h)⟩
              · repeat' (first | with_reducible assumption | with_reducible exact Ext.refl _ | with_reducible apply Ext.alloc | with_reducible apply Ext.drew | with_reducible apply Ext.drewN | with_reducible apply Ext.plus_ | with_reducible refine Ext.put ?_ (by omega))
              · repeat' (first | with_reducible assumption | ((with_reducible refine Box.fresh ?fb ?fn ?fr); (case fb => first | omega | (simp <;> omega)); (case fn => first | omega | (simp <;> omega)); (case fr => rfl)) | with_reducible apply Box.up | with_reducible apply Box.drew_ | with_reducible apply Box.drewN_ | with_reducible apply Box.plus_ | with_reducible apply Box.put | with_reducible refine Box.off ?_ (by omega))
                all_goals first | rfl | (simp; done)
              · repeat' (first | with_reducible assumption | ((with_reducible refine Box.fresh ?fb ?fn ?fr); (case fb => first | omega | (simp <;> omega)); (case fn => first | omega | (simp <;> omega)); (case fr => rfl)) | with_reducible apply Box.up | with_reducible apply Box.drew_ | with_reducible apply Box.drewN_ | with_reducible apply Box.plus_ | with_reducible apply Box.put | with_reducible refine Box.off ?_ (by omega))
                all_goals first | rfl | (simp; done)
              · repeat' (first | with_reducible assumption | with_reducible refine Row.put ?_ (by omega) | with_reducible refine Row.up_ ?_ (by first | omega | (simp <;> omega)) _ | with_reducible refine Row.plus_ ?_ (by first | omega | (simp <;> omega)) _ | with_reducible apply Row.drew)
              · repeat' (first | with_reducible assumption | with_reducible refine Row.put ?_ (by omega) | with_reducible refine Row.up_ ?_ (by first | omega | (simp <;> omega)) _ | with_reducible refine Row.plus_ ?_ (by first | omega | (simp <;> omega)) _ | with_reducible apply Row.drew)
    · have HT := Lib.hid hst
      clear hst hE hB1 hB2 hR hIR
      go_wp2_with fail
      refine (awake_any _).mono ?_
      rintro ee Z ⟨rfl, hEZ⟩
      go_wp2
      go_ret
      exact ⟨rfl, HT.out.e.trans hEZ⟩
theorem law_rback (v0 v1 : Value) (w : World) (p0 : ∃ A n c, ∃ l : List Int, v0 = .slice A n c ∧ ArgRow w A n c (l.map (Value.int .i64)) ∧ ∀ x ∈ l, I64 x)
    (p1 : ∃ A n c, ∃ l : List Int, v1 = .slice A n c ∧ ArgRow w A n c (l.map (Value.int .i64)) ∧ ∀ x ∈ l, I64 x) :
    Calls Try.prog 5 #[v0, v1] w fun ee w' => ee = .returned (.bool true) ∧ Ext w w' := by
  obtain ⟨B, k, d, ll, rfl, ⟨hB, hkd, hdm, _⟩, _⟩ := p0
  obtain ⟨M, mk, md, ml, rfl, ⟨hM, hmd, hmm, _⟩, _⟩ := p1
  exact rback_go B k d ll M mk md ml w hB (by omega) hM (by omega) hmd
end Go.Proofs.Ytidndcigloohoaa
