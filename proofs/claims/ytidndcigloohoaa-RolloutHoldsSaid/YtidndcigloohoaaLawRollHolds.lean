/- RolloutHolds: the walk. -/
import Derived.Test.YtidndcigloohoaaHoldPlain
import Derived.Test.YtidndcigloohoaaOpenRoll
import Derived.Deep.CutRange
set_option linter.unusedVariables false
namespace Go.Proofs.Ytidndcigloohoaa
open Go.RowKit Go.Rg

set_option maxRecDepth 100000 in
set_option maxHeartbeats 4000000 in
theorem rholds_go (B : Option Addr) (k d : Nat) (ll : List Int) (M : Option Addr) (mk md : Nat) (ml : List Int) (w : World) (hB : Row w w.heap.size 1 B k (ints ll)) (hk : k ≤ 9223372036854775807)
    (hM : Row w w.heap.size 1 M mk (ints ml)) (hmk : mk ≤ 9223372036854775807) (hmd : mk ≤ md) :
    Calls Try.prog 6 #[.slice B k d, .slice M mk md] w fun ee w' => ee = .returned (.bool true) ∧ Ext w w' := by
  go_enter Try.func6, Try.ntmps6
  go_wp2_with fail
  refine (made_any B k d ll M mk md ml _ (hB.lift (by repeat (first | exact Ext.refl _ | assumption | apply Ext.plus_ | apply Ext.alloc | apply Ext.drew))) hk (hM.lift (by repeat (first | exact Ext.refl _ | assumption | apply Ext.plus_ | apply Ext.alloc | apply Ext.drew))) hmk hmd).mono ?_
  rintro ee X ⟨A, c, wl, mi, nu, de, ho, wi, I, id', il, rfl, hsm, hc, hR, hIR, hil, hE⟩
  obtain ⟨P, hP⟩ : ∃ P, P = X.heap.size := ⟨_, rfl⟩
  rw [← hP] at hR hIR
  have hwP : w.heap.size ≤ P := by rw [hP]; exact hE.size
  have H := Lib.hid (And.intro hE (And.intro hR (And.intro hIR hP)))
  have HM := Lib.hid hsm
  clear hB hM hE hR hIR hsm hP
  go_wp2
  refine wp_at fun W hW => ?_
  obtain ⟨hE, hR, hIR, hP⟩ := H.out
  have hB1 : Box P (pcells A wl.length c mi nu de ho wi) P W := by
    rw [hW]
    repeat' (first | with_reducible assumption | ((with_reducible refine Box.fresh ?fb ?fn ?fr); (case fb => first | omega | (simp <;> omega)); (case fn => first | omega | (simp <;> omega)); (case fr => rfl)) | with_reducible apply Box.up | with_reducible apply Box.drew_ | with_reducible apply Box.drewN_ | with_reducible apply Box.plus_ | with_reducible apply Box.put | with_reducible refine Box.off ?_ (by omega))
    all_goals first | rfl | (simp; done)
  have hB2 : Box P (rcells ⟨0, 0, 0, 0, 0, 0⟩) (P + 1) W := by
    rw [hW]
    repeat' (first | with_reducible assumption | ((with_reducible refine Box.fresh ?fb ?fn ?fr); (case fb => first | omega | (simp <;> omega)); (case fn => first | omega | (simp <;> omega)); (case fr => rfl)) | with_reducible apply Box.up | with_reducible apply Box.drew_ | with_reducible apply Box.drewN_ | with_reducible apply Box.plus_ | with_reducible apply Box.put | with_reducible refine Box.off ?_ (by omega))
    all_goals first | rfl | (simp; done)
  replace hE : Ext w W := by
    rw [hW]
    repeat' (first | with_reducible assumption | with_reducible exact Ext.refl _ | with_reducible apply Ext.alloc | with_reducible apply Ext.drew | with_reducible apply Ext.drewN | with_reducible apply Ext.plus_ | with_reducible refine Ext.put ?_ (by omega))
  replace hR : Row W P 1 A wl.length (ints wl) := by
    rw [hW]
    repeat' (first | with_reducible assumption | with_reducible refine Row.put ?_ (by omega) | with_reducible refine Row.up_ ?_ (by first | omega | (simp <;> omega)) _ | with_reducible refine Row.plus_ ?_ (by first | omega | (simp <;> omega)) _ | with_reducible apply Row.drew)
  replace hIR : Row W P 2 I il.length (icells il) := by
    rw [hW]
    repeat' (first | with_reducible assumption | with_reducible refine Row.put ?_ (by omega) | with_reducible refine Row.up_ ?_ (by first | omega | (simp <;> omega)) _ | with_reducible refine Row.plus_ ?_ (by first | omega | (simp <;> omega)) _ | with_reducible apply Row.drew)
  rw [← hP]
  clear hW hP H
  have hst : St w W P A wl c mi nu de ho wi I il (P + 1) ⟨0, 0, 0, 0, 0, 0⟩ := ⟨hE, hB1, hB2, hR, hIR⟩
  clear hE hB1 hB2 hR hIR
  go_loopg [8, 9] il.length (fun gk s8 i wr => ∃ (q : Nat) (r : Ro) (st : Int), q ≤ il.length ∧ gk = il.length - q ∧ s8 = .int .i64 st ∧ i = .int .i64 q ∧ Hid (r = runR wl mi nu de ho wi il q) ∧ Hid (St w wr P A wl c mi nu de ho wi I il (P + 1) r) ∧ Hid (st = sk r))
  case atStart => exact ⟨0, _, 0, Nat.zero_le _, rfl, rfl, rfl, Lib.hid rfl, Lib.hid hst, Lib.hid rfl⟩
  case round =>
    clear hst
    obtain ⟨q, ⟨s, g, h, t, e, a⟩, st, hq, hgk, rfl, rfl, hid, hst, hsk⟩ := hrel
    replace hst := hst.out
    have hE := hst.e
    have hB1 := hst.b1
    have hB2 := hst.b2
    have hR := hst.r
    have hIR := hst.ir
    have p0 := hB1.cell 0 (by simp)
    have p1 := hB1.cell 1 (by simp)
    have p2 := hB1.cell 2 (by simp)
    have p3 := hB1.cell 3 (by simp)
    have p4 := hB1.cell 4 (by simp)
    have p5 := hB1.cell 5 (by simp)
    simp only [List.getElem?_cons_zero, List.getElem?_cons_succ] at p0 p1 p2 p3 p4 p5
    have pF := hB1.free
    have pL := hB1.lt
    have pB := hB1.base
    have r0 := hB2.cell 0 (by simp)
    have r1 := hB2.cell 1 (by simp)
    have r2 := hB2.cell 2 (by simp)
    have r3 := hB2.cell 3 (by simp)
    have r4 := hB2.cell 4 (by simp)
    have r5 := hB2.cell 5 (by simp)
    simp only [List.getElem?_cons_zero, List.getElem?_cons_succ] at r0 r1 r2 r3 r4 r5
    have rF := hB2.free
    have rL := hB2.lt
    have rB := hB2.base
    by_cases hlt : q < il.length
    · obtain ⟨b, o, kx, ky, rfl, hb, hz, c0, c1⟩ := Row.inp_at hIR hlt
      have hI := inv_run HM.out.ok il q
      have hS := runR_succ (l := wl) (mi := mi) (nu := nu) (de := de) (ho := ho) (wi := wi) hz
      have hA := age_run (l := wl) (mi := mi) (nu := nu) (de := de) (ho := ho) HM.out.ok.wi1 il q
      have hW := win_run (l := wl) (mi := mi) (nu := nu) (de := de) (ho := ho) (wi := wi) il q
      rw [← hid.out] at hI hS hA hW
      have C := Lib.hid (fun W hW => step_any A wl.length c wl mi nu de ho wi ⟨s, g, h, t, e, a⟩ kx ky W hW hc HM.out.ok hI)
      have CV := Lib.hid (fun W hW => verdict_any A wl.length c wl mi nu de ho wi t e a W hW hc (by have := HM.out.n3; omega))
      have hH := hold_step (x := kx) (y := ky) HM.out.ok hI hA hW hsk.out
      have hst3 : 0 ≤ st ∧ st ≤ 3 := by
        have h1 := hsk.out
        have h2 := hI.2.2.1
        have h3 := hI.2.2.2
        have h4 := HM.out.ho3
        simp only at h2 h3
        unfold sk at h1
        simp only at h1
        split at h1 <;> omega
      obtain ⟨hs0, hs3⟩ := hst3
      obtain ⟨⟨s', g', h', t', e', a'⟩, hrr⟩ : ∃ rr, rr = stepR wl mi nu de ho wi ⟨s, g, h, t, e, a⟩ kx ky := ⟨_, rfl⟩
      obtain ⟨v, hv⟩ : ∃ v, v = vd wl mi nu de ho wi t e := ⟨_, rfl⟩
      rw [← hrr] at C hS hH
      rw [← hv] at CV hH
      obtain ⟨ha1, ha2⟩ := hA
      simp only at ha1 ha2
      have HH := Lib.hid hH
      have HS := Lib.hid hS
      have HT := Lib.hid hst
      have HG := Lib.hid hgk
      have HR := Lib.hid hst.r_
      have hho := HM.out.ho3
      have hw4 := HM.out.wi4
      clear hI hW hS hE hB1 hB2 hR hIR hst hz hrr hH hid hgk hv hsk
      go_wp2_with fail
      apply wp_region_ext 8 [is _, is _, is _, is _, is _, is _, is (rv ⟨s', g', h', t', e', a'⟩), isBox wr.heap.size [.int .i64 0, .int .i64 0, .int .i64 0, .int .i64 0, .int .i64 0, .int .i64 0]] (by kernel_rfl) (by kernel_rfl) rfl
      case hops =>
        simp only [List.take_succ_cons, List.take_zero]
        refine ⟨?_, ?_, ?_, ?_, ?_, ?_, ?_, ?_, trivial⟩
        all_goals
          intro vs x hd
          simp only [putAll, Act.put, List.setIfInBounds_toArray, List.set_cons_succ, List.set_cons_zero, Nat.zero_add, Nat.reduceAdd]
          simp [depFacts, is, isRow, isRowN, isBox, dataE] at hd
          try simp only [World.plus_plus] at hd
          simp only [Region.wanted, if_true, comes]
          try simp [yielded, hd, comes]
          go_simp
          try go_bits
          first
            | exact ⟨Ext.refl _, rfl⟩
            | exact rfl
            | exact ⟨(Ext.refl _).alloc _, _, rfl, Cells.new _ _ _ _ rfl⟩
            | exact ⟨(Ext.refl _).alloc _, _, rfl, Box.new _ _ _ _ (by simp [World.le_plus]) rfl⟩
            | (refine (C.out _ (HR.out.lift (by repeat (first | exact Ext.refl _ | assumption | apply Ext.plus_ | apply Ext.alloc | apply Ext.drew)))).mono ?_; rintro e w' ⟨rfl, hE⟩; exact ⟨_, rfl, hE, rfl⟩)
      case hst => exact ⟨(by apply is.st), (by apply is.st), (by apply is.st), (by apply is.st), (by apply is.st), (by apply is.st), (by apply is.st), (by apply isBox.st), trivial⟩
      case hfin =>
        intro vs x hf
        try simp only [World.plus_plus] at hf ⊢
        simp only [List.take_succ_cons, List.take_zero, List.drop_succ_cons, List.drop_zero, putAll, Act.put, List.setIfInBounds_toArray, List.set_cons_succ, List.set_cons_zero]
        simp only [facts, is, Nat.zero_add, Nat.reduceAdd] at hf
        have f7 := hf.2.2.2.2.2.2.2.1
        simp only [Nat.zero_add, Nat.reduceAdd, hf]
        clear hf
        obtain ⟨b3, hv3, hB3⟩ := f7
        simp only [hv3]
        refine wl_at fun Y hY => ?_
        rw [← hY] at hB3
        have hEY : Ext wr Y := by
          rw [hY]
          exact (Ext.refl wr).plus_ _
        have hst := HT.out.ext hEY
        replace c0 := hEY.cell c0
        replace c1 := hEY.cell c1
        have hb3 : P + 1 < b3 := by
          have h1 := hB3.base
          have h2 := HT.out.b2.lt
          omega
        replace hB3 := Box.rebase hB3 (show P ≤ b3 by omega)
        clear hv3 hY hEY HT HR
        clear p0 p1 p2 p3 p4 p5 pF pL pB
        clear r0 r1 r2 r3 r4 r5 rF rL rB
        have hB1 := hst.b1
        have hB2 := hst.b2
        have p0 := hB1.cell 0 (by simp)
        have p1 := hB1.cell 1 (by simp)
        have p2 := hB1.cell 2 (by simp)
        have p3 := hB1.cell 3 (by simp)
        have p4 := hB1.cell 4 (by simp)
        have p5 := hB1.cell 5 (by simp)
        simp only [List.getElem?_cons_zero, List.getElem?_cons_succ] at p0 p1 p2 p3 p4 p5
        have pF := hB1.free
        have pL := hB1.lt
        have pB := hB1.base
        have r0 := hB2.cell 0 (by simp)
        have r1 := hB2.cell 1 (by simp)
        have r2 := hB2.cell 2 (by simp)
        have r3 := hB2.cell 3 (by simp)
        have r4 := hB2.cell 4 (by simp)
        have r5 := hB2.cell 5 (by simp)
        simp only [List.getElem?_cons_zero, List.getElem?_cons_succ] at r0 r1 r2 r3 r4 r5
        have rF := hB2.free
        have rL := hB2.lt
        have rB := hB2.base
        clear hB1 hB2
        have o0 := hB3.cell 0 (by simp)
        have o1 := hB3.cell 1 (by simp)
        have o2 := hB3.cell 2 (by simp)
        have o3 := hB3.cell 3 (by simp)
        have o4 := hB3.cell 4 (by simp)
        have o5 := hB3.cell 5 (by simp)
        simp only [List.getElem?_cons_zero, List.getElem?_cons_succ] at o0 o1 o2 o3 o4 o5
        have oF := hB3.free
        have oL := hB3.lt
        have oB := hB3.base
        have HT := Lib.hid (And.intro hst hB3)
        clear hst hB3
        go_upto_region 8 with fail
        refine wp_at fun V hV => ?_
        obtain ⟨hst, hB3⟩ := HT.out
        have hst : St w V P A wl c mi nu de ho wi (some ⟨b, o, none⟩) il (P + 1) ⟨s, g, h, t, e, a⟩ := by
          obtain ⟨hE, hB1, hB2, hR, hIR⟩ := hst
          rw [hV]
          refine ⟨?_, ?_, ?_, ?_, ?_⟩
          · repeat' (first | with_reducible assumption | with_reducible exact Ext.refl _ | with_reducible apply Ext.alloc | with_reducible apply Ext.drew | with_reducible apply Ext.drewN | with_reducible apply Ext.plus_ | with_reducible refine Ext.put ?_ (by omega))
          · repeat' (first | with_reducible assumption | ((with_reducible refine Box.fresh ?fb ?fn ?fr); (case fb => first | omega | (simp <;> omega)); (case fn => first | omega | (simp <;> omega)); (case fr => rfl)) | with_reducible apply Box.up | with_reducible apply Box.drew_ | with_reducible apply Box.drewN_ | with_reducible apply Box.plus_ | with_reducible apply Box.put | with_reducible refine Box.off ?_ (by omega))
            all_goals first | rfl | (simp; done)
          · repeat' (first | with_reducible assumption | ((with_reducible refine Box.fresh ?fb ?fn ?fr); (case fb => first | omega | (simp <;> omega)); (case fn => first | omega | (simp <;> omega)); (case fr => rfl)) | with_reducible apply Box.up | with_reducible apply Box.drew_ | with_reducible apply Box.drewN_ | with_reducible apply Box.plus_ | with_reducible apply Box.put | with_reducible refine Box.off ?_ (by omega))
            all_goals first | rfl | (simp; done)
          · repeat' (first | with_reducible assumption | with_reducible refine Row.put ?_ (by omega) | with_reducible refine Row.up_ ?_ (by first | omega | (simp <;> omega)) _ | with_reducible refine Row.plus_ ?_ (by first | omega | (simp <;> omega)) _ | with_reducible apply Row.drew)
          · repeat' (first | with_reducible assumption | with_reducible refine Row.put ?_ (by omega) | with_reducible refine Row.up_ ?_ (by first | omega | (simp <;> omega)) _ | with_reducible refine Row.plus_ ?_ (by first | omega | (simp <;> omega)) _ | with_reducible apply Row.drew)
        replace hB3 : Box P (rcells ⟨s', g', h', t', e', a'⟩) b3 V := by
          rw [hV]
          repeat' (first | with_reducible assumption | ((with_reducible refine Box.fresh ?fb ?fn ?fr); (case fb => first | omega | (simp <;> omega)); (case fn => first | omega | (simp <;> omega)); (case fr => rfl)) | with_reducible apply Box.up | with_reducible apply Box.drew_ | with_reducible apply Box.drewN_ | with_reducible apply Box.plus_ | with_reducible apply Box.put | with_reducible refine Box.off ?_ (by omega))
          all_goals first | rfl | (simp; done)
        replace c0 : V.cell? ⟨b, o + q * 2, none⟩ = some (.int .i64 kx) := by
          rw [hV]
          repeat' (first | with_reducible assumption | with_reducible refine cell_off ?_ (by omega))
        replace c1 : V.cell? ⟨b, o + q * 2 + 1, none⟩ = some (.int .i64 ky) := by
          rw [hV]
          repeat' (first | with_reducible assumption | with_reducible refine cell_off ?_ (by omega))
        clear hV HT
        clear o0 o1 o2 o3 o4 o5 oF oL oB
        clear p0 p1 p2 p3 p4 p5 pF pL pB
        clear r0 r1 r2 r3 r4 r5 rF rL rB
        have hB1 := hst.b1
        have hB2 := hst.b2
        have p0 := hB1.cell 0 (by simp)
        have p1 := hB1.cell 1 (by simp)
        have p2 := hB1.cell 2 (by simp)
        have p3 := hB1.cell 3 (by simp)
        have p4 := hB1.cell 4 (by simp)
        have p5 := hB1.cell 5 (by simp)
        simp only [List.getElem?_cons_zero, List.getElem?_cons_succ] at p0 p1 p2 p3 p4 p5
        have pF := hB1.free
        have pL := hB1.lt
        have pB := hB1.base
        have r0 := hB2.cell 0 (by simp)
        have r1 := hB2.cell 1 (by simp)
        have r2 := hB2.cell 2 (by simp)
        have r3 := hB2.cell 3 (by simp)
        have r4 := hB2.cell 4 (by simp)
        have r5 := hB2.cell 5 (by simp)
        simp only [List.getElem?_cons_zero, List.getElem?_cons_succ] at r0 r1 r2 r3 r4 r5
        have rF := hB2.free
        have rL := hB2.lt
        have rB := hB2.base
        clear hB1 hB2
        have o0 := hB3.cell 0 (by simp)
        have o1 := hB3.cell 1 (by simp)
        have o2 := hB3.cell 2 (by simp)
        have o3 := hB3.cell 3 (by simp)
        have o4 := hB3.cell 4 (by simp)
        have o5 := hB3.cell 5 (by simp)
        simp only [List.getElem?_cons_zero, List.getElem?_cons_succ] at o0 o1 o2 o3 o4 o5
        have oF := hB3.free
        have oL := hB3.lt
        have oB := hB3.base
        have HT := Lib.hid (And.intro hst hB3)
        have HR := Lib.hid hst.r_
        clear hst hB3
        go_cut [50] from 18 to 108 (fun s50 wx => ∃ cl : Bool, s50 = .bool cl ∧ wx = V ∧ Hid (cl = decide (ClP wi ⟨s, g, h, t, e, a⟩ kx)))
        case first =>
          by_cases h1 : s = 1
          · subst h1
            by_cases h2 : kx = 1
            · subst h2
              by_cases h3 : wi ≤ a + 1
              · go_wp2_with fail
                go_meet
                case rel => exact ⟨true, rfl, rfl, Lib.hid (decide_eq_true ⟨rfl, rfl, h3⟩).symm⟩
              · go_wp2_with fail
                go_meet
                case rel => exact ⟨false, rfl, rfl, Lib.hid (decide_eq_false (fun h => by
                  have h9 : wi ≤ a + 1 := h.2.2
                  omega)).symm⟩
            · have e2 : (kx == 1) = false := by simp [h2]
              go_wp2_with fail
              go_meet
              case rel => exact ⟨false, rfl, rfl, Lib.hid (decide_eq_false (fun h => h2 h.2.1)).symm⟩
          · have e2 : (s == 1) = false := by simp [h1]
            go_wp2_with fail
            go_meet
            case rel => exact ⟨false, rfl, rfl, Lib.hid (decide_eq_false (fun h => h1 h.1)).symm⟩
        case rest =>
        obtain ⟨cl, rfl, rfl, hcl⟩ := hcut
        go_upto_if 50 with fail
        go_cut [8] from 18 to 108 (fun s8 wx => ∃ n1 : Int, s8 = .int .i64 n1 ∧ Ext wc wx ∧ Hid (n1 = st1 wi v ⟨s, g, h, t, e, a⟩ kx st))
        case first =>
          cases cl
          · go_wp2_with fail
            go_meet
            case rel => exact ⟨st, rfl, Ext.refl _, Lib.hid (if_neg (of_decide_eq_false hcl.out.symm)).symm⟩
          · have hcp := of_decide_eq_true hcl.out.symm
            go_wp2_with fail
            refine (CV.out _ (HR.out.lift (by repeat (first | exact Ext.refl _ | assumption | apply Ext.plus_ | apply Ext.alloc | apply Ext.drew)))).mono ?_
            rintro ee Z ⟨rfl, hE⟩
            by_cases h4 : v = 2
            · subst h4
              have HC := Lib.hid hcp
              clear hcp
              go_wp2_with fail
              go_meet
              case rel => exact ⟨st + 1, rfl, hE, Lib.hid (by unfold st1; rw [if_pos HC.out, if_pos rfl])⟩
            · have e4 : (v == 2) = false := by simp [h4]
              have HC := Lib.hid hcp
              clear hcp
              go_wp2_with fail
              go_meet
              case rel => exact ⟨0, rfl, hE, Lib.hid (by unfold st1; rw [if_pos HC.out, if_neg h4])⟩
        case rest =>
        obtain ⟨n1, rfl, hEx, hn1⟩ := hcut
        have hst := HT.out.1.ext hEx
        have hB3 := HT.out.2.ext hEx
        replace c0 := hEx.cell c0
        replace c1 := hEx.cell c1
        clear hEx HT HR
        clear o0 o1 o2 o3 o4 o5 oF oL oB
        clear p0 p1 p2 p3 p4 p5 pF pL pB
        clear r0 r1 r2 r3 r4 r5 rF rL rB
        have hB1 := hst.b1
        have hB2 := hst.b2
        have p0 := hB1.cell 0 (by simp)
        have p1 := hB1.cell 1 (by simp)
        have p2 := hB1.cell 2 (by simp)
        have p3 := hB1.cell 3 (by simp)
        have p4 := hB1.cell 4 (by simp)
        have p5 := hB1.cell 5 (by simp)
        simp only [List.getElem?_cons_zero, List.getElem?_cons_succ] at p0 p1 p2 p3 p4 p5
        have pF := hB1.free
        have pL := hB1.lt
        have pB := hB1.base
        have r0 := hB2.cell 0 (by simp)
        have r1 := hB2.cell 1 (by simp)
        have r2 := hB2.cell 2 (by simp)
        have r3 := hB2.cell 3 (by simp)
        have r4 := hB2.cell 4 (by simp)
        have r5 := hB2.cell 5 (by simp)
        simp only [List.getElem?_cons_zero, List.getElem?_cons_succ] at r0 r1 r2 r3 r4 r5
        have rF := hB2.free
        have rL := hB2.lt
        have rB := hB2.base
        clear hB1 hB2
        have o0 := hB3.cell 0 (by simp)
        have o1 := hB3.cell 1 (by simp)
        have o2 := hB3.cell 2 (by simp)
        have o3 := hB3.cell 3 (by simp)
        have o4 := hB3.cell 4 (by simp)
        have o5 := hB3.cell 5 (by simp)
        simp only [List.getElem?_cons_zero, List.getElem?_cons_succ] at o0 o1 o2 o3 o4 o5
        have oF := hB3.free
        have oL := hB3.lt
        have oB := hB3.base
        have HT := Lib.hid (And.intro hst hB3)
        clear hst hB3
        have hn3 : 0 ≤ n1 ∧ n1 ≤ 4 := by
          have h1 := hn1.out
          unfold st1 at h1
          split at h1
          · split at h1 <;> omega
          · omega
        obtain ⟨hn3, hn4⟩ := hn3
        go_upto_region 12 with fail
        go_cut [11] from 18 to 108 (fun s11 wx => ∃ bt : Bool, s11 = .bool bt ∧ wx = wc ∧ Hid (bt = decide (BtP ⟨s, g, h, t, e, a⟩ ⟨s', g', h', t', e', a'⟩ kx)))
        case first =>
          by_cases h1 : kx = 1
          · subst h1
            by_cases h2 : s' = 2
            · subst h2
              by_cases h3 : s = 2
              · subst h3
                go_wp2_with fail
                go_meet
                case rel => exact ⟨false, rfl, rfl, Lib.hid (decide_eq_false (fun h => by
                  rcases h.2 with h | h
                  · exact h.2 rfl
                  · have h9 : (2 : Int) = 1 := h.1
                    omega)).symm⟩
              · have e3 : (s == 2) = false := by simp [h3]
                have H3 := Lib.hid h3
                clear h3
                go_wp2_with fail
                go_meet
                case rel => exact ⟨true, rfl, rfl, Lib.hid (decide_eq_true ⟨rfl, .inl ⟨rfl, H3.out⟩⟩).symm⟩
            · have e2 : (s' == 2) = false := by simp [h2]
              have H2 := Lib.hid h2
              clear h2
              by_cases h4 : s' = 1
              · subst h4
                by_cases h5 : g < g'
                · have H5 := Lib.hid h5
                  go_wp2_with fail
                  go_meet
                  case rel => exact ⟨true, rfl, rfl, Lib.hid (decide_eq_true ⟨rfl, .inr ⟨rfl, H5.out⟩⟩).symm⟩
                · have H5 := Lib.hid h5
                  go_wp2_with fail
                  go_meet
                  case rel => exact ⟨false, rfl, rfl, Lib.hid (decide_eq_false (fun h => by
                    rcases h.2 with h | h
                    · exact H2.out h.1
                    · have h9 : g < g' := h.2
                      have := H5.out
                      omega)).symm⟩
              · have e4 : (s' == 1) = false := by simp [h4]
                have H4 := Lib.hid h4
                clear h4
                go_wp2_with fail
                go_meet
                case rel => exact ⟨false, rfl, rfl, Lib.hid (decide_eq_false (fun h => by
                  rcases h.2 with h | h
                  · exact H2.out h.1
                  · exact H4.out h.1)).symm⟩
          · have e1 : (kx == 1) = false := by simp [h1]
            have H1 := Lib.hid h1
            clear h1
            go_wp2_with fail
            go_meet
            case rel => exact ⟨false, rfl, rfl, Lib.hid (decide_eq_false (fun h => H1.out h.1)).symm⟩
        case rest =>
        obtain ⟨bt, rfl, rfl, hbt⟩ := hcut
        go_upto_if 86 with fail
        go_cut [8] from 18 to 108 (fun s8 wx => ∃ n2 : Int, s8 = .int .i64 n2 ∧ wx = wc ∧ Hid (n2 = st2 ⟨s, g, h, t, e, a⟩ ⟨s', g', h', t', e', a'⟩ kx n1))
        case first =>
          cases bt
          · have HB := Lib.hid (of_decide_eq_false hbt.out.symm)
            go_wp2_with fail
            go_meet
            case rel => exact ⟨n1, rfl, rfl, Lib.hid (if_neg HB.out).symm⟩
          · have hb := of_decide_eq_true hbt.out.symm
            have hm := HH.out.most hb
            rw [← hn1.out] at hm
            have HB := Lib.hid hb
            clear hb
            go_wp2_with fail
            go_meet
            case rel => exact ⟨0, rfl, rfl, Lib.hid (if_pos HB.out).symm⟩
        case rest =>
        obtain ⟨n2, rfl, rfl, hn2⟩ := hcut
        have HH2 := HH.out
        have hsame := HH2.same
        have hnext := HH2.next
        rw [← hn1.out, ← hn2.out] at hsame hnext
        have HX := Lib.hid (And.intro hsame hnext)
        clear HH2 hsame hnext
        go_upto_region 17 with fail
        go_cut [99] from 18 to 108 (fun s99 wx => s99 = .bool false ∧ wx = wc)
        case first =>
          by_cases h1 : s' = 1
          · have h2 : h' = n2 := HX.out.1 h1
            subst h1
            subst h2
            go_wp2_with fail
            go_meet
            case rel => exact ⟨rfl, rfl⟩
          · have e1 : (s' == 1) = false := by simp [h1]
            go_wp2_with fail
            go_meet
            case rel => exact ⟨rfl, rfl⟩
        case rest =>
        obtain ⟨rfl, rfl⟩ := hcut
        by_cases h1 : s' = 1
        · subst h1
          go_wp2_with fail
          go_roundg (il.length - (q + 1))
          case measure =>
            have := HG.out
            omega
          case rel =>
            obtain ⟨hE, hB1, hB2, hR, hIR⟩ := HT.out.1
            refine ⟨q + 1, ⟨1, g', h', t', e', a'⟩, n2, by omega, rfl, rfl, by go_num, Lib.hid HS.out.symm, Lib.hid ⟨?_, ?_, ?_, ?_, ?_⟩, Lib.hid (by have h9 := HX.out.2; rw [if_pos (.inl (by trivial))] at h9; exact h9.symm)⟩
            · repeat' (first | with_reducible assumption | with_reducible exact Ext.refl _ | with_reducible apply Ext.alloc | with_reducible apply Ext.drew | with_reducible apply Ext.drewN | with_reducible apply Ext.plus_ | with_reducible refine Ext.put ?_ (by omega))
            · repeat' (first | with_reducible assumption | ((with_reducible refine Box.fresh ?fb ?fn ?fr); (case fb => first | omega | (simp <;> omega)); (case fn => first | omega | (simp <;> omega)); (case fr => rfl)) | with_reducible apply Box.up | with_reducible apply Box.drew_ | with_reducible apply Box.drewN_ | with_reducible apply Box.plus_ | with_reducible apply Box.put | with_reducible refine Box.off ?_ (by omega))
              all_goals first | rfl | (simp; done)
            · repeat' (first | with_reducible assumption | ((with_reducible refine Box.fresh ?fb ?fn ?fr); (case fb => first | omega | (simp <;> omega)); (case fn => first | omega | (simp <;> omega)); (case fr => rfl)) | with_reducible apply Box.up | with_reducible apply Box.drew_ | with_reducible apply Box.drewN_ | with_reducible apply Box.plus_ | with_reducible apply Box.put | with_reducible refine Box.off ?_ (by omega))
              all_goals first | rfl | (simp; done)
            · repeat' (first | with_reducible assumption | with_reducible refine Row.put ?_ (by omega) | with_reducible refine Row.up_ ?_ (by first | omega | (simp <;> omega)) _ | with_reducible refine Row.plus_ ?_ (by first | omega | (simp <;> omega)) _ | with_reducible apply Row.drew)
            · repeat' (first | with_reducible assumption | with_reducible refine Row.put ?_ (by omega) | with_reducible refine Row.up_ ?_ (by first | omega | (simp <;> omega)) _ | with_reducible refine Row.plus_ ?_ (by first | omega | (simp <;> omega)) _ | with_reducible apply Row.drew)
        · have e1 : (s' == 1) = false := by simp [h1]
          by_cases h4 : s' = 4
          · subst h4
            clear h1
            go_wp2_with fail
            go_roundg (il.length - (q + 1))
            case measure =>
              have := HG.out
              omega
            case rel =>
              obtain ⟨hE, hB1, hB2, hR, hIR⟩ := HT.out.1
              refine ⟨q + 1, ⟨4, g', h', t', e', a'⟩, n2, by omega, rfl, rfl, by go_num, Lib.hid HS.out.symm, Lib.hid ⟨?_, ?_, ?_, ?_, ?_⟩, Lib.hid (by have h9 := HX.out.2; rw [if_pos (.inr (by trivial))] at h9; exact h9.symm)⟩
              · repeat' (first | with_reducible assumption | with_reducible exact Ext.refl _ | with_reducible apply Ext.alloc | with_reducible apply Ext.drew | with_reducible apply Ext.drewN | with_reducible apply Ext.plus_ | with_reducible refine Ext.put ?_ (by omega))
              · repeat' (first | with_reducible assumption | ((with_reducible refine Box.fresh ?fb ?fn ?fr); (case fb => first | omega | (simp <;> omega)); (case fn => first | omega | (simp <;> omega)); (case fr => rfl)) | with_reducible apply Box.up | with_reducible apply Box.drew_ | with_reducible apply Box.drewN_ | with_reducible apply Box.plus_ | with_reducible apply Box.put | with_reducible refine Box.off ?_ (by omega))
                all_goals first | rfl | (simp; done)
              · repeat' (first | with_reducible assumption | ((with_reducible refine Box.fresh ?fb ?fn ?fr); (case fb => first | omega | (simp <;> omega)); (case fn => first | omega | (simp <;> omega)); (case fr => rfl)) | with_reducible apply Box.up | with_reducible apply Box.drew_ | with_reducible apply Box.drewN_ | with_reducible apply Box.plus_ | with_reducible apply Box.put | with_reducible refine Box.off ?_ (by omega))
                all_goals first | rfl | (simp; done)
              · repeat' (first | with_reducible assumption | with_reducible refine Row.put ?_ (by omega) | with_reducible refine Row.up_ ?_ (by first | omega | (simp <;> omega)) _ | with_reducible refine Row.plus_ ?_ (by first | omega | (simp <;> omega)) _ | with_reducible apply Row.drew)
              · repeat' (first | with_reducible assumption | with_reducible refine Row.put ?_ (by omega) | with_reducible refine Row.up_ ?_ (by first | omega | (simp <;> omega)) _ | with_reducible refine Row.plus_ ?_ (by first | omega | (simp <;> omega)) _ | with_reducible apply Row.drew)
          · have e4 : (s' == 4) = false := by simp [h4]
            have HN := Lib.hid (And.intro h1 h4)
            have f1 : (s' != 1) = true := by simp [h1]
            have f4 : (s' != 4) = true := by simp [h4]
            go_wp2_with fail
            go_roundg (il.length - (q + 1))
            case measure =>
              have := HG.out
              omega
            case rel =>
              obtain ⟨hE, hB1, hB2, hR, hIR⟩ := HT.out.1
              refine ⟨q + 1, ⟨s', g', h', t', e', a'⟩, 0, by omega, rfl, rfl, by go_num, Lib.hid HS.out.symm, Lib.hid ⟨?_, ?_, ?_, ?_, ?_⟩, Lib.hid (by have h9 := HX.out.2; rw [if_neg (fun h => by rcases h with h | h; exact HN.out.1 h; exact HN.out.2 h)] at h9; exact h9.symm)⟩
              · repeat' (first | with_reducible assumption | with_reducible exact Ext.refl _ | with_reducible apply Ext.alloc | with_reducible apply Ext.drew | with_reducible apply Ext.drewN | with_reducible apply Ext.plus_ | with_reducible refine Ext.put ?_ (by omega))
              · repeat' (first | with_reducible assumption | ((with_reducible refine Box.fresh ?fb ?fn ?fr); (case fb => first | omega | (simp <;> omega)); (case fn => first | omega | (simp <;> omega)); (case fr => rfl)) | with_reducible apply Box.up | with_reducible apply Box.drew_ | with_reducible apply Box.drewN_ | with_reducible apply Box.plus_ | with_reducible apply Box.put | with_reducible refine Box.off ?_ (by omega))
                all_goals first | rfl | (simp; done)
              · repeat' (first | with_reducible assumption | ((with_reducible refine Box.fresh ?fb ?fn ?fr); (case fb => first | omega | (simp <;> omega)); (case fn => first | omega | (simp <;> omega)); (case fr => rfl)) | with_reducible apply Box.up | with_reducible apply Box.drew_ | with_reducible apply Box.drewN_ | with_reducible apply Box.plus_ | with_reducible apply Box.put | with_reducible refine Box.off ?_ (by omega))
                all_goals first | rfl | (simp; done)
              · repeat' (first | with_reducible assumption | with_reducible refine Row.put ?_ (by omega) | with_reducible refine Row.up_ ?_ (by first | omega | (simp <;> omega)) _ | with_reducible refine Row.plus_ ?_ (by first | omega | (simp <;> omega)) _ | with_reducible apply Row.drew)
              · repeat' (first | with_reducible assumption | with_reducible refine Row.put ?_ (by omega) | with_reducible refine Row.up_ ?_ (by first | omega | (simp <;> omega)) _ | with_reducible refine Row.plus_ ?_ (by first | omega | (simp <;> omega)) _ | with_reducible apply Row.drew)
    · have HT := Lib.hid hst
      clear hst hE hB1 hB2 hR hIR
      go_wp2_with fail
      refine (awake_any _).mono ?_
      rintro ee Z ⟨rfl, hEZ⟩
      go_wp2
      go_ret
      exact ⟨rfl, HT.out.e.trans hEZ⟩
theorem law_rholds (v0 v1 : Value) (w : World) (p0 : ∃ A n c, ∃ l : List Int, v0 = .slice A n c ∧ ArgRow w A n c (l.map (Value.int .i64)) ∧ ∀ x ∈ l, I64 x)
    (p1 : ∃ A n c, ∃ l : List Int, v1 = .slice A n c ∧ ArgRow w A n c (l.map (Value.int .i64)) ∧ ∀ x ∈ l, I64 x) :
    Calls Try.prog 6 #[v0, v1] w fun ee w' => ee = .returned (.bool true) ∧ Ext w w' := by
  obtain ⟨B, k, d, ll, rfl, ⟨hB, hkd, hdm, _⟩, _⟩ := p0
  obtain ⟨M, mk, md, ml, rfl, ⟨hM, hmd, hmm, _⟩, _⟩ := p1
  exact rholds_go B k d ll M mk md ml w hB (by omega) hM (by omega) hmd
end Go.Proofs.Ytidndcigloohoaa
