/- RolloutPaused: the walk. -/
import Derived.Test.YtidndcigloohoaaRollLoop
import Derived.Test.YtidndcigloohoaaOpenRoll
set_option linter.unusedVariables false
namespace Go.Proofs.Ytidndcigloohoaa
open Go.RowKit Go.Rg

theorem still_step {l : List Int} {mi nu de ho wi : Int} {r : Ro} {x y : Int} (h4 : r.s = 4) (hx : ¬ x = 4) : stepR l mi nu de ho wi r x y = r := by
  have h1 : ¬ r.s = 1 := by omega
  have ho : ∀ b, obsR r b = r := fun b => if_neg h1
  unfold stepR
  split
  · exact if_neg h1
  split
  · exact ho _
  split
  · exact ho _
  first
    | rfl
    | exact if_neg hx

set_option maxRecDepth 100000 in
set_option maxHeartbeats 4000000 in
theorem rpaused_go (B : Option Addr) (k d : Nat) (ll : List Int) (M : Option Addr) (mk md : Nat) (ml : List Int) (M2 : Option Addr) (nk nd : Nat) (nl : List Int) (w : World) (hB : Row w w.heap.size 1 B k (ints ll)) (hk : k ≤ 9223372036854775807)
    (hM : Row w w.heap.size 1 M mk (ints ml)) (hmk : mk ≤ 9223372036854775807) (hmd : mk ≤ md) (hN : Row w w.heap.size 1 M2 nk (ints nl)) (hnk : nk ≤ 9223372036854775807) (hnd : nk ≤ nd) :
    Calls Try.prog 8 #[.slice B k d, .slice M mk md, .slice M2 nk nd] w fun ee w' => ee = .returned (.bool true) ∧ Ext w w' := by
  go_enter Try.func8, Try.ntmps8
  go_wp2_with fail
  refine (made_any B k d ll M mk md ml _ (hB.lift (by repeat (first | exact Ext.refl _ | assumption | apply Ext.plus_ | apply Ext.alloc | apply Ext.drew))) hk (hM.lift (by repeat (first | exact Ext.refl _ | assumption | apply Ext.plus_ | apply Ext.alloc | apply Ext.drew))) hmk hmd).mono ?_
  rintro ee X ⟨A, c, wl, mi, nu, de, ho, wi, I, id', il, rfl, hsm, hc, hR, hIR, hil, hE⟩
  obtain ⟨P, hP⟩ : ∃ P, P = X.heap.size := ⟨_, rfl⟩
  rw [← hP] at hR hIR
  have hwP : w.heap.size ≤ P := by rw [hP]; exact hE.size
  have H := Lib.hid (And.intro hE (And.intro hR (And.intro hIR hP)))
  have HN := Lib.hid (hN.lift hE)
  have HM := Lib.hid hsm
  clear hB hM hN hE hR hIR hsm hP
  -- the reference's run
  go_wp2_with fail
  refine calls_at fun W hW => ?_
  obtain ⟨hE, hR, hIR, hP⟩ := H.out
  have hEX : Ext X W := by
    rw [hW]
    repeat' (first | with_reducible assumption | with_reducible exact Ext.refl _ | with_reducible apply Ext.alloc | with_reducible apply Ext.drew | with_reducible apply Ext.drewN | with_reducible apply Ext.plus_ | with_reducible refine Ext.put ?_ (by omega))
  have hB1 : Box P (pcells A wl.length c mi nu de ho wi) P W := by
    rw [hW]
    repeat' (first | with_reducible assumption | ((with_reducible refine Box.fresh ?fb ?fn ?fr); (case fb => first | omega | (simp <;> omega)); (case fn => first | omega | (simp <;> omega)); (case fr => rfl)) | with_reducible apply Box.up | with_reducible apply Box.drew_ | with_reducible apply Box.drewN_ | with_reducible apply Box.plus_ | with_reducible apply Box.put | with_reducible refine Box.off ?_ (by omega))
    all_goals first | rfl | (simp; done)
  replace hE := hE.trans hEX
  replace hR := hR.below (hEX.mono (Nat.le_of_eq hP))
  replace hIR := hIR.below (hEX.mono (Nat.le_of_eq hP))
  have hNR := HN.out.lift hEX
  rw [← hP]
  clear hW hP H hEX HN
  have hPW : P ≤ W.heap.size := Nat.le_of_lt hB1.lt
  refine (refRun_any A wl.length c wl mi nu de ho wi I il.length id' il W (hR.more hPW) hc HM.out.ok (hIR.more hPW) (by omega)).mono ?_
  have hI := inv_run HM.out.ok il il.length
  obtain ⟨⟨s, g, h, t, e, a⟩, hrr⟩ : ∃ rr, rr = runR wl mi nu de ho wi il il.length := ⟨_, rfl⟩
  rw [← hrr] at hI ⊢
  rintro ee Z ⟨rfl, hEZ⟩
  replace hB1 := hB1.ext hEZ
  replace hE := hE.trans hEZ
  replace hR := hR.below (hEZ.mono hPW)
  replace hNR := hNR.lift hEZ
  have hPZ : P + 1 ≤ Z.heap.size := hB1.lt
  clear hEZ hIR hrr hPW
  have H := Lib.hid (And.intro hE (And.intro hB1 (And.intro hR (And.intro hNR hI))))
  clear hE hB1 hR hNR hI
  -- Command
  go_wp2_with fail
  refine calls_at fun V hV => ?_
  obtain ⟨hE, hB1, hR, hNR, hI⟩ := H.out
  obtain ⟨Q, hQ⟩ : ∃ P, P = Z.heap.size := ⟨_, rfl⟩
  have hPQ : P < Q := by omega
  have hEV : Ext Z V := by
    rw [hV]
    repeat' (first | with_reducible assumption | with_reducible exact Ext.refl _ | with_reducible apply Ext.alloc | with_reducible apply Ext.drew | with_reducible apply Ext.drewN | with_reducible apply Ext.plus_ | with_reducible refine Ext.put ?_ (by omega))
  have hB2 : Box P (rcells ⟨s, g, h, t, e, a⟩) Q V := by
    rw [hV]
    repeat' (first | with_reducible assumption | ((with_reducible refine Box.fresh ?fb ?fn ?fr); (case fb => first | omega | (simp <;> omega)); (case fn => first | omega | (simp <;> omega)); (case fr => rfl)) | with_reducible apply Box.up | with_reducible apply Box.drew_ | with_reducible apply Box.drewN_ | with_reducible apply Box.plus_ | with_reducible apply Box.put | with_reducible refine Box.off ?_ (by omega))
    all_goals first | rfl | (simp; done)
  replace hB1 := hB1.ext hEV
  replace hE := hE.trans hEV
  replace hR := hR.below (hEV.mono (by omega))
  replace hNR := hNR.lift hEV
  rw [← hQ]
  clear hV H
  have CC := command_any ⟨s, g, h, t, e, a⟩ 2 V
  by_cases h1 : s = 1
  · subst h1
    rw [show cmdR ⟨1, g, h, t, e, a⟩ 2 = (⟨4, g, h, t, e, a⟩, 0) by simp [cmdR]] at CC
    refine CC.mono ?_
    rintro ee U ⟨rfl, hEU⟩
    have hPV : P < V.heap.size := hB1.lt
    replace hB1 := hB1.ext hEU
    replace hB2 := hB2.ext hEU
    replace hE := hE.trans hEU
    replace hR := hR.below (hEU.mono (Nat.le_of_lt hPV))
    replace hNR := hNR.lift hEU
    clear hEU hEV CC hQ
    have H := Lib.hid (And.intro hE (And.intro hB1 (And.intro hB2 (And.intro hR (And.intro hNR hI)))))
    clear hE hB1 hB2 hR hNR hI
    go_wp2_with fail
    refine calls_at fun Y hY => ?_
    obtain ⟨hE, hB1, hB2, hR, hNR, hI⟩ := H.out
    obtain ⟨S, hS⟩ : ∃ P, P = U.heap.size := ⟨_, rfl⟩
    have hQS : Q < S := by rw [hS]; exact hB2.lt
    have hEY : Ext U Y := by
      rw [hY]
      repeat' (first | with_reducible assumption | with_reducible exact Ext.refl _ | with_reducible apply Ext.alloc | with_reducible apply Ext.drew | with_reducible apply Ext.drewN | with_reducible apply Ext.plus_ | with_reducible refine Ext.put ?_ (by omega))
    have hB3 : Box P (rcells ⟨4, g, h, t, e, a⟩) S Y := by
      rw [hY]
      repeat' (first | with_reducible assumption | ((with_reducible refine Box.fresh ?fb ?fn ?fr); (case fb => first | omega | (simp <;> omega)); (case fn => first | omega | (simp <;> omega)); (case fr => rfl)) | with_reducible apply Box.up | with_reducible apply Box.drew_ | with_reducible apply Box.drewN_ | with_reducible apply Box.plus_ | with_reducible apply Box.put | with_reducible refine Box.off ?_ (by omega))
      all_goals first | rfl | (simp; done)
    replace hB1 := hB1.ext hEY
    replace hB2 := hB2.ext hEY
    replace hE := hE.trans hEY
    replace hR := hR.below (hEY.mono (by omega))
    replace hNR := hNR.lift hEY
    rw [← hS]
    clear hY H hEY hS
    refine (inputs_any M2 nk nd nl Y hNR hnk hnd).mono ?_
    rintro ee Z2 ⟨J, jd, jl, rfl, hown, hj1, hj2, hEZ⟩
    have hJ := own_rows (by omega) hown
    have hPY : P < Y.heap.size := hB1.lt
    replace hB1 := hB1.ext hEZ
    replace hB2 := hB2.ext hEZ
    replace hB3 := hB3.ext hEZ
    replace hE := hE.trans hEZ
    replace hR := hR.below (hEZ.mono (Nat.le_of_lt hPY))
    clear hEZ hown hNR
    have o0 := hB3.cell 0 (by simp)
    have o1 := hB3.cell 1 (by simp)
    have o2 := hB3.cell 2 (by simp)
    have o3 := hB3.cell 3 (by simp)
    have o4 := hB3.cell 4 (by simp)
    have o5 := hB3.cell 5 (by simp)
    simp only [List.getElem?_cons_zero, List.getElem?_cons_succ] at o0 o1 o2 o3 o4 o5
    have oF := hB3.free
    have oL := hB3.lt
    have oB := hB3.base
    have H := Lib.hid (And.intro hE (And.intro hB1 (And.intro hB2 (And.intro hR (And.intro hJ hI)))))
    clear hE hB1 hB2 hB3 hR hJ hI
    go_wp2
    refine wp_at fun Y2 hY => ?_
    obtain ⟨hE, hB1, hB2, hR, hJ, hI⟩ := H.out
    obtain ⟨T, hT⟩ : ∃ P, P = Z2.heap.size := ⟨_, rfl⟩
    have hQT : Q < T := by rw [hT]; exact hB2.lt
    have hEY : Ext Z2 Y2 := by
      rw [hY]
      repeat' (first | with_reducible assumption | with_reducible exact Ext.refl _ | with_reducible apply Ext.alloc | with_reducible apply Ext.drew | with_reducible apply Ext.drewN | with_reducible apply Ext.plus_ | with_reducible refine Ext.put ?_ (by omega))
    have hB4 : Box P (rcells ⟨4, g, h, t, e, a⟩) T Y2 := by
      rw [hY]
      repeat' (first | with_reducible assumption | ((with_reducible refine Box.fresh ?fb ?fn ?fr); (case fb => first | omega | (simp <;> omega)); (case fn => first | omega | (simp <;> omega)); (case fr => rfl)) | with_reducible apply Box.up | with_reducible apply Box.drew_ | with_reducible apply Box.drewN_ | with_reducible apply Box.plus_ | with_reducible apply Box.put | with_reducible refine Box.off ?_ (by omega))
      all_goals first | rfl | (simp; done)
    replace hB1 := hB1.ext hEY
    replace hB2 := hB2.ext hEY
    replace hE := hE.trans hEY
    replace hR := hR.below (hEY.mono (by omega))
    replace hJ := hJ.below (hEY.mono (Nat.le_refl _))
    rw [← hT] at hJ ⊢
    clear o0 o1 o2 o3 o4 o5 oF oL oB
    clear hY H hEY hT
    go_loopw [14] (fun i wr => ∃ q : Nat, q ≤ jl.length ∧ i = .int .i64 q ∧ Hid (Ext w wr ∧ Box P (pcells A wl.length c mi nu de ho wi) P wr ∧ Box P (rcells ⟨1, g, h, t, e, a⟩) Q wr ∧ Box P (rcells ⟨4, g, h, t, e, a⟩) T wr ∧ Row wr P 1 A wl.length (ints wl) ∧ Row wr T 2 J jl.length (icells jl))) (fun i _ => jl.length - (intOf i).toNat)
    case atStart => exact ⟨0, Nat.zero_le _, rfl, Lib.hid ⟨hE, hB1, hB2, hB4, hR, hJ⟩⟩
    case round =>
      clear hE hB1 hB2 hB4 hR hJ
      obtain ⟨q, hq, rfl, hst⟩ := hrel
      obtain ⟨hE, hB1, hB2, hB4, hR, hJ⟩ := hst.out
      have p0 := hB1.cell 0 (by simp)
      have p1 := hB1.cell 1 (by simp)
      have p2 := hB1.cell 2 (by simp)
      have p3 := hB1.cell 3 (by simp)
      have p4 := hB1.cell 4 (by simp)
      have p5 := hB1.cell 5 (by simp)
      simp only [List.getElem?_cons_zero, List.getElem?_cons_succ] at p0 p1 p2 p3 p4 p5
      have pF := hB1.free
      have pL := hB1.lt
      have pB := hB1.base
      have o0 := hB4.cell 0 (by simp)
      have o1 := hB4.cell 1 (by simp)
      have o2 := hB4.cell 2 (by simp)
      have o3 := hB4.cell 3 (by simp)
      have o4 := hB4.cell 4 (by simp)
      have o5 := hB4.cell 5 (by simp)
      simp only [List.getElem?_cons_zero, List.getElem?_cons_succ] at o0 o1 o2 o3 o4 o5
      have oF := hB4.free
      have oL := hB4.lt
      have oB := hB4.base
      by_cases hlt : q < jl.length
      · obtain ⟨b, o, kx, ky, rfl, hb, hz, c0, c1⟩ := Row.inp_at hJ hlt
        by_cases h4 : kx = 4
        · subst h4
          clear hE hB1 hB2 hB4 hR hJ hz
          go_wp2
          go_roundw
          case rel => exact ⟨q + 1, by omega, by go_num, hst⟩
          case measure => simp [intOf]; omega
        · have e4 : (kx != 4) = true := by simp [h4]
          have C := Lib.hid (fun W hW => step_any A wl.length c wl mi nu de ho wi ⟨4, g, h, t, e, a⟩ kx ky W hW hc HM.out.ok hI)
          rw [still_step rfl h4] at C
          have HR := Lib.hid (hR.more (Nat.le_of_lt hB1.lt))
          clear hE hB1 hB2 hB4 hR hJ hz
          go_wp2
          apply wp_region_ext 7 [is _, is _, is _, is _, is _, is _, is (rv ⟨4, g, h, t, e, a⟩)] (by kernel_rfl) (by kernel_rfl) rfl
          case hops =>
            simp only [List.take_succ_cons, List.take_zero]
            refine ⟨?_, ?_, ?_, ?_, ?_, ?_, ?_, trivial⟩
            all_goals
              intro vs x hd
              simp only [putAll, Act.put, List.setIfInBounds_toArray, List.set_cons_succ, List.set_cons_zero, Nat.zero_add, Nat.reduceAdd]
              simp [depFacts, is, isRow, isRowN, isBox, dataE] at hd
              try simp only [World.plus_plus] at hd
              simp only [Region.wanted, if_true, comes]
              try simp [yielded, hd, comes]
              go_simp
              try go_bits
              first
                | exact ⟨Ext.refl _, rfl⟩
                | exact rfl
                | exact ⟨(Ext.refl _).alloc _, _, rfl, Cells.new _ _ _ _ rfl⟩
                | exact ⟨(Ext.refl _).alloc _, _, rfl, Box.new _ _ _ _ (by simp [World.le_plus]) rfl⟩
                | (refine (C.out _ (HR.out.lift (by repeat (first | exact Ext.refl _ | assumption | apply Ext.plus_ | apply Ext.alloc | apply Ext.drew)))).mono ?_; rintro e w' ⟨rfl, hE⟩; exact ⟨_, rfl, hE, rfl⟩)
          case hst => exact ⟨(by apply is.st), (by apply is.st), (by apply is.st), (by apply is.st), (by apply is.st), (by apply is.st), (by apply is.st), trivial⟩
          case hfin =>
            intro vs x hf
            try simp only [World.plus_plus] at hf ⊢
            simp only [List.take_succ_cons, List.take_zero, List.drop_succ_cons, List.drop_zero, putAll, Act.put, List.setIfInBounds_toArray, List.set_cons_succ, List.set_cons_zero]
            simp only [facts, is, Nat.zero_add, Nat.reduceAdd] at hf
            simp only [Nat.zero_add, Nat.reduceAdd, hf]
            clear hf
            refine wl_at fun V2 hV => ?_
            have hEV : Ext wr V2 := by
              rw [hV]
              exact (Ext.refl wr).plus_ _
            obtain ⟨hE, hB1, hB2, hB4, hR, hJ⟩ := hst.out
            replace hR := hR.below (hEV.mono (Nat.le_of_lt hB1.lt))
            replace hJ := hJ.below (hEV.mono (Nat.le_of_lt hB4.lt))
            replace hE := hE.trans hEV
            replace hB1 := hB1.ext hEV
            replace hB2 := hB2.ext hEV
            replace hB4 := hB4.ext hEV
            clear p0 p1 p2 p3 p4 p5 pF pL pB
            clear o0 o1 o2 o3 o4 o5 oF oL oB
            clear hV hEV hst HR
            have o0 := hB4.cell 0 (by simp)
            have o1 := hB4.cell 1 (by simp)
            have o2 := hB4.cell 2 (by simp)
            have o3 := hB4.cell 3 (by simp)
            have o4 := hB4.cell 4 (by simp)
            have o5 := hB4.cell 5 (by simp)
            simp only [List.getElem?_cons_zero, List.getElem?_cons_succ] at o0 o1 o2 o3 o4 o5
            have oF := hB4.free
            have oL := hB4.lt
            have oB := hB4.base
            have hst := Lib.hid (And.intro hE (And.intro hB1 (And.intro hB2 (And.intro hB4 (And.intro hR hJ)))))
            clear hE hB1 hB2 hB4 hR hJ
            go_wp2
            go_roundw
            case rel =>
              obtain ⟨hE, hB1, hB2, hB4, hR, hJ⟩ := hst.out
              refine ⟨q + 1, by omega, by go_num, Lib.hid ⟨?_, ?_, ?_, ?_, ?_, ?_⟩⟩
              · repeat' (first | with_reducible assumption | with_reducible exact Ext.refl _ | with_reducible apply Ext.alloc | with_reducible apply Ext.drew | with_reducible apply Ext.drewN | with_reducible apply Ext.plus_ | with_reducible refine Ext.put ?_ (by omega))
              · repeat' (first | with_reducible assumption | ((with_reducible refine Box.fresh ?fb ?fn ?fr); (case fb => first | omega | (simp <;> omega)); (case fn => first | omega | (simp <;> omega)); (case fr => rfl)) | with_reducible apply Box.up | with_reducible apply Box.drew_ | with_reducible apply Box.drewN_ | with_reducible apply Box.plus_ | with_reducible apply Box.put | with_reducible refine Box.off ?_ (by omega))
                all_goals first | rfl | (simp; done)
              · repeat' (first | with_reducible assumption | ((with_reducible refine Box.fresh ?fb ?fn ?fr); (case fb => first | omega | (simp <;> omega)); (case fn => first | omega | (simp <;> omega)); (case fr => rfl)) | with_reducible apply Box.up | with_reducible apply Box.drew_ | with_reducible apply Box.drewN_ | with_reducible apply Box.plus_ | with_reducible apply Box.put | with_reducible refine Box.off ?_ (by omega))
                all_goals first | rfl | (simp; done)
              · repeat' (first | with_reducible assumption | ((with_reducible refine Box.fresh ?fb ?fn ?fr); (case fb => first | omega | (simp <;> omega)); (case fn => first | omega | (simp <;> omega)); (case fr => rfl)) | with_reducible apply Box.up | with_reducible apply Box.drew_ | with_reducible apply Box.drewN_ | with_reducible apply Box.plus_ | with_reducible apply Box.put | with_reducible refine Box.off ?_ (by omega))
                all_goals first | rfl | (simp; done)
              · repeat' (first | with_reducible assumption | with_reducible refine Row.put ?_ (by omega) | with_reducible refine Row.up_ ?_ (by first | omega | (simp <;> omega)) _ | with_reducible refine Row.plus_ ?_ (by first | omega | (simp <;> omega)) _ | with_reducible apply Row.drew)
              · repeat' (first | with_reducible assumption | with_reducible refine Row.put ?_ (by omega) | with_reducible refine Row.up_ ?_ (by first | omega | (simp <;> omega)) _ | with_reducible refine Row.plus_ ?_ (by first | omega | (simp <;> omega)) _ | with_reducible apply Row.drew)
            case measure => simp [intOf]; omega
      · have CC := Lib.hid (fun W => command_any ⟨4, g, h, t, e, a⟩ 3 W)
        rw [show cmdR ⟨4, g, h, t, e, a⟩ 3 = (⟨1, g, h, t, e, a⟩, 0) by simp [cmdR]] at CC
        clear hE hB1 hB2 hB4 hR hJ
        go_wp2_with fail
        refine (CC.out _).mono ?_
        rintro ee V2 ⟨rfl, hEV⟩
        obtain ⟨hE, hB1, hB2, hB4, hR, hJ⟩ := hst.out
        replace hB2 := hB2.ext hEV
        replace hE := hE.trans hEV
        clear p0 p1 p2 p3 p4 p5 pF pL pB
        clear o0 o1 o2 o3 o4 o5 oF oL oB
        have o0 := hB2.cell 0 (by simp)
        have o1 := hB2.cell 1 (by simp)
        have o2 := hB2.cell 2 (by simp)
        have o3 := hB2.cell 3 (by simp)
        have o4 := hB2.cell 4 (by simp)
        have o5 := hB2.cell 5 (by simp)
        simp only [List.getElem?_cons_zero, List.getElem?_cons_succ] at o0 o1 o2 o3 o4 o5
        have oF := hB2.free
        have oL := hB2.lt
        have oB := hB2.base
        have HE := Lib.hid hE
        clear hE hB1 hB2 hB4 hR hJ hst hEV
        go_wp2_with fail
        refine calls_at fun Y3 hY => ?_
        have hE : Ext w Y3 := by
          rw [hY]
          have hE := HE.out
          repeat' (first | with_reducible assumption | with_reducible exact Ext.refl _ | with_reducible apply Ext.alloc | with_reducible apply Ext.drew | with_reducible apply Ext.drewN | with_reducible apply Ext.plus_ | with_reducible refine Ext.put ?_ (by omega))
        clear hY HE
        refine (awake_any _).mono ?_
        rintro ee Y4 ⟨rfl, hEY⟩
        go_wp2
        go_ret
        exact ⟨rfl, hE.trans hEY⟩
  · rw [show cmdR ⟨s, g, h, t, e, a⟩ 2 = (at_ 0, 7) by simp [cmdR, h1]] at CC
    refine CC.mono ?_
    rintro ee U ⟨rfl, hEU⟩
    replace hE := hE.trans hEU
    have HE := Lib.hid hE
    clear hE hEU CC hB1 hB2 hR hNR hI hEV
    go_wp2_with fail
    refine calls_at fun Y hY => ?_
    have hE : Ext w Y := by
      rw [hY]
      have hE := HE.out
      repeat' (first | with_reducible assumption | with_reducible exact Ext.refl _ | with_reducible apply Ext.alloc | with_reducible apply Ext.drew | with_reducible apply Ext.drewN | with_reducible apply Ext.plus_ | with_reducible refine Ext.put ?_ (by omega))
    clear hY HE
    refine (awake_any _).mono ?_
    rintro ee Y2 ⟨rfl, hEY⟩
    go_wp2
    go_ret
    exact ⟨rfl, hE.trans hEY⟩
theorem law_rpaused (v0 v1 v2 : Value) (w : World) (p0 : ∃ A n c, ∃ l : List Int, v0 = .slice A n c ∧ ArgRow w A n c (l.map (Value.int .i64)) ∧ ∀ x ∈ l, I64 x)
    (p1 : ∃ A n c, ∃ l : List Int, v1 = .slice A n c ∧ ArgRow w A n c (l.map (Value.int .i64)) ∧ ∀ x ∈ l, I64 x) (p2 : ∃ A n c, ∃ l : List Int, v2 = .slice A n c ∧ ArgRow w A n c (l.map (Value.int .i64)) ∧ ∀ x ∈ l, I64 x) :
    Calls Try.prog 8 #[v0, v1, v2] w fun ee w' => ee = .returned (.bool true) ∧ Ext w w' := by
  obtain ⟨B, k, d, ll, rfl, ⟨hB, hkd, hdm, _⟩, _⟩ := p0
  obtain ⟨M, mk, md, ml, rfl, ⟨hM, hmd, hmm, _⟩, _⟩ := p1
  obtain ⟨M2, nk, nd, nl, rfl, ⟨hN, hnd, hnm, _⟩, _⟩ := p2
  exact rpaused_go B k d ll M mk md ml M2 nk nd nl w hB (by omega) hM (by omega) hmd hN (by omega) hnd
end Go.Proofs.Ytidndcigloohoaa
