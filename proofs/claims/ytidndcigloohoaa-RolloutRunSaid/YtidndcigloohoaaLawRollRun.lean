/- RolloutRun: the walk. -/
import Derived.Test.YtidndcigloohoaaRollLoop
import Derived.Test.YtidndcigloohoaaOpenRoll
set_option linter.unusedVariables false
namespace Go.Proofs.Ytidndcigloohoaa
open Go.RowKit Go.Rg

set_option maxHeartbeats 4000000 in
theorem rrun_go (B : Option Addr) (k d : Nat) (ll : List Int) (M : Option Addr) (mk md : Nat) (ml : List Int) (w : World) (hB : Row w w.heap.size 1 B k (ints ll)) (hk : k ≤ 9223372036854775807)
    (hM : Row w w.heap.size 1 M mk (ints ml)) (hmk : mk ≤ 9223372036854775807) (hmd : mk ≤ md) :
    Calls Try.prog 4 #[.slice B k d, .slice M mk md] w fun ee w' => ee = .returned (.bool true) ∧ Ext w w' := by
  go_enter Try.func4, Try.ntmps4
  go_wp2_with fail
  refine (made_any B k d ll M mk md ml _ (hB.lift (by repeat (first | exact Ext.refl _ | assumption | apply Ext.plus_ | apply Ext.alloc | apply Ext.drew))) hk (hM.lift (by repeat (first | exact Ext.refl _ | assumption | apply Ext.plus_ | apply Ext.alloc | apply Ext.drew))) hmk hmd).mono ?_
  rintro ee X ⟨A, c, wl, mi, nu, de, ho, wi, I, id', il, rfl, hsm, hc, hR, hIR, hil, hE⟩
  obtain ⟨P, hP⟩ : ∃ P, P = X.heap.size := ⟨_, rfl⟩
  rw [← hP] at hR hIR
  have hwP : w.heap.size ≤ P := by rw [hP]; exact hE.size
  have H := Lib.hid (And.intro hE (And.intro hR (And.intro hIR hP)))
  have HM := Lib.hid hsm
  clear hB hM hE hR hIR hsm hP
  go_wp2
  refine wp_at fun W hW => ?_
  obtain ⟨hE, hR, hIR, hP⟩ := H.out
  have hB1 : Box P (pcells A wl.length c mi nu de ho wi) P W := by
    rw [hW]
    repeat' (first | with_reducible assumption | ((with_reducible refine Box.fresh ?fb ?fn ?fr); (case fb => first | omega | (simp <;> omega)); (case fn => first | omega | (simp <;> omega)); (case fr => rfl)) | with_reducible apply Box.up | with_reducible apply Box.drew_ | with_reducible apply Box.drewN_ | with_reducible apply Box.plus_ | with_reducible apply Box.put | with_reducible refine Box.off ?_ (by omega))
    all_goals first | rfl | (simp; done)
  have hB2 : Box P (rcells ⟨0, 0, 0, 0, 0, 0⟩) (P + 1) W := by
    rw [hW]
    repeat' (first | with_reducible assumption | ((with_reducible refine Box.fresh ?fb ?fn ?fr); (case fb => first | omega | (simp <;> omega)); (case fn => first | omega | (simp <;> omega)); (case fr => rfl)) | with_reducible apply Box.up | with_reducible apply Box.drew_ | with_reducible apply Box.drewN_ | with_reducible apply Box.plus_ | with_reducible apply Box.put | with_reducible refine Box.off ?_ (by omega))
    all_goals first | rfl | (simp; done)
  replace hE : Ext w W := by
    rw [hW]
    repeat' (first | with_reducible assumption | with_reducible exact Ext.refl _ | with_reducible apply Ext.alloc | with_reducible apply Ext.drew | with_reducible apply Ext.drewN | with_reducible apply Ext.plus_ | with_reducible refine Ext.put ?_ (by omega))
  replace hR : Row W P 1 A wl.length (ints wl) := by
    rw [hW]
    repeat' (first | with_reducible assumption | with_reducible refine Row.put ?_ (by omega) | with_reducible refine Row.up_ ?_ (by first | omega | (simp <;> omega)) _ | with_reducible refine Row.plus_ ?_ (by first | omega | (simp <;> omega)) _ | with_reducible apply Row.drew)
  replace hIR : Row W P 2 I il.length (icells il) := by
    rw [hW]
    repeat' (first | with_reducible assumption | with_reducible refine Row.put ?_ (by omega) | with_reducible refine Row.up_ ?_ (by first | omega | (simp <;> omega)) _ | with_reducible refine Row.plus_ ?_ (by first | omega | (simp <;> omega)) _ | with_reducible apply Row.drew)
  rw [← hP]
  clear hW hP H
  have hst : St w W P A wl c mi nu de ho wi I il (P + 1) ⟨0, 0, 0, 0, 0, 0⟩ := ⟨hE, hB1, hB2, hR, hIR⟩
  clear hE hB1 hB2 hR hIR
  go_loopw [8] (fun i wr => ∃ (q : Nat) (r : Ro), q ≤ il.length ∧ i = .int .i64 q ∧ Hid (r = runR wl mi nu de ho wi il q) ∧ Hid (St w wr P A wl c mi nu de ho wi I il (P + 1) r)) (fun i _ => il.length - (intOf i).toNat)
  case atStart => exact ⟨0, _, Nat.zero_le _, rfl, Lib.hid rfl, Lib.hid hst⟩
  case round =>
    clear hst
    obtain ⟨q, ⟨s, g, h, t, e, a⟩, hq, rfl, hid, hst⟩ := hrel
    replace hst := hst.out
    have hE := hst.e
    have hB1 := hst.b1
    have hB2 := hst.b2
    have hR := hst.r
    have hIR := hst.ir
    have p0 := hB1.cell 0 (by simp)
    have p1 := hB1.cell 1 (by simp)
    have p2 := hB1.cell 2 (by simp)
    have p3 := hB1.cell 3 (by simp)
    have p4 := hB1.cell 4 (by simp)
    have p5 := hB1.cell 5 (by simp)
    simp only [List.getElem?_cons_zero, List.getElem?_cons_succ] at p0 p1 p2 p3 p4 p5
    have pF := hB1.free
    have pL := hB1.lt
    have pB := hB1.base
    have r0 := hB2.cell 0 (by simp)
    have r1 := hB2.cell 1 (by simp)
    have r2 := hB2.cell 2 (by simp)
    have r3 := hB2.cell 3 (by simp)
    have r4 := hB2.cell 4 (by simp)
    have r5 := hB2.cell 5 (by simp)
    simp only [List.getElem?_cons_zero, List.getElem?_cons_succ] at r0 r1 r2 r3 r4 r5
    have rF := hB2.free
    have rL := hB2.lt
    have rB := hB2.base
    by_cases hlt : q < il.length
    · obtain ⟨b, o, x, y, rfl, hb, hz, c0, c1⟩ := Row.inp_at hIR hlt
      have hI := inv_run HM.out.ok il q
      have hS := runR_succ (l := wl) (mi := mi) (nu := nu) (de := de) (ho := ho) (wi := wi) hz
      rw [← hid.out] at hI hS
      have C := Lib.hid (fun W hW => step_any A wl.length c wl mi nu de ho wi ⟨s, g, h, t, e, a⟩ x y W hW hc HM.out.ok hI)
      have HR := Lib.hid hst.r_
      obtain ⟨⟨s', g', h', t', e', a'⟩, hrr⟩ : ∃ rr, rr = stepR wl mi nu de ho wi ⟨s, g, h, t, e, a⟩ x y := ⟨_, rfl⟩
      rw [← hrr] at C hS
      have HS := Lib.hid hS
      have HT := Lib.hid hst
      clear hI hS hE hB1 hB2 hR hIR hst hz hrr
      go_wp2
      apply wp_region_ext 7 [is _, is _, is _, is _, is _, is _, is (rv ⟨s', g', h', t', e', a'⟩)] (by kernel_rfl) (by kernel_rfl) rfl
      case hops =>
        simp only [List.take_succ_cons, List.take_zero]
        refine ⟨?_, ?_, ?_, ?_, ?_, ?_, ?_, trivial⟩
        all_goals
          intro vs x hd
          simp only [putAll, Act.put, List.setIfInBounds_toArray, List.set_cons_succ, List.set_cons_zero, Nat.zero_add, Nat.reduceAdd]
          simp [depFacts, is, isRow, isRowN, isBox, dataE] at hd
          try simp only [World.plus_plus] at hd
          simp only [Region.wanted, if_true, comes]
          try simp [yielded, hd, comes]
          go_simp
          try go_bits
          first
            | exact ⟨Ext.refl _, rfl⟩
            | exact rfl
            | exact ⟨(Ext.refl _).alloc _, _, rfl, Cells.new _ _ _ _ rfl⟩
            | exact ⟨(Ext.refl _).alloc _, _, rfl, Box.new _ _ _ _ (by simp [World.le_plus]) rfl⟩
            | (refine (C.out _ (HR.out.lift (by repeat (first | exact Ext.refl _ | assumption | apply Ext.plus_ | apply Ext.alloc | apply Ext.drew)))).mono ?_; rintro e w' ⟨rfl, hE⟩; exact ⟨_, rfl, hE, rfl⟩)
      case hst => exact ⟨(by apply is.st), (by apply is.st), (by apply is.st), (by apply is.st), (by apply is.st), (by apply is.st), (by apply is.st), trivial⟩
      case hfin =>
        intro vs x hf
        try simp only [World.plus_plus] at hf ⊢
        simp only [List.take_succ_cons, List.take_zero, List.drop_succ_cons, List.drop_zero, putAll, Act.put, List.setIfInBounds_toArray, List.set_cons_succ, List.set_cons_zero]
        simp only [facts, is, Nat.zero_add, Nat.reduceAdd] at hf
        simp only [Nat.zero_add, Nat.reduceAdd, hf]
        clear hf
        refine wl_at fun Y hY => ?_
        have hst := HT.out.ext (show Ext wr Y by rw [hY]; exact (Ext.refl wr).plus_ _)
        clear hY HT HR
        clear p0 p1 p2 p3 p4 p5 pF pL pB
        clear r0 r1 r2 r3 r4 r5 rF rL rB
        have hB2 := hst.b2
        have r0 := hB2.cell 0 (by simp)
        have r1 := hB2.cell 1 (by simp)
        have r2 := hB2.cell 2 (by simp)
        have r3 := hB2.cell 3 (by simp)
        have r4 := hB2.cell 4 (by simp)
        have r5 := hB2.cell 5 (by simp)
        simp only [List.getElem?_cons_zero, List.getElem?_cons_succ] at r0 r1 r2 r3 r4 r5
        have rF := hB2.free
        have rL := hB2.lt
        have rB := hB2.base
        clear hB2
        have HT := Lib.hid hst
        clear hst
        go_wp2
        go_roundw
        case rel =>
          obtain ⟨hE, hB1, hB2, hR, hIR⟩ := HT.out
          refine ⟨q + 1, ⟨s', g', h', t', e', a'⟩, by omega, by go_num, Lib.hid HS.out.symm, Lib.hid ⟨?_, ?_, ?_, ?_, ?_⟩⟩
          · repeat' (first | with_reducible assumption | with_reducible exact Ext.refl _ | with_reducible apply Ext.alloc | with_reducible apply Ext.drew | with_reducible apply Ext.drewN | with_reducible apply Ext.plus_ | with_reducible refine Ext.put ?_ (by omega))
          · repeat' (first | with_reducible assumption | ((with_reducible refine Box.fresh ?fb ?fn ?fr); (case fb => first | omega | (simp <;> omega)); (case fn => first | omega | (simp <;> omega)); (case fr => rfl)) | with_reducible apply Box.up | with_reducible apply Box.drew_ | with_reducible apply Box.drewN_ | with_reducible apply Box.plus_ | with_reducible apply Box.put | with_reducible refine Box.off ?_ (by omega))
            all_goals first | rfl | (simp; done)
          · repeat' (first | with_reducible assumption | ((with_reducible refine Box.fresh ?fb ?fn ?fr); (case fb => first | omega | (simp <;> omega)); (case fn => first | omega | (simp <;> omega)); (case fr => rfl)) | with_reducible apply Box.up | with_reducible apply Box.drew_ | with_reducible apply Box.drewN_ | with_reducible apply Box.plus_ | with_reducible apply Box.put | with_reducible refine Box.off ?_ (by omega))
            all_goals first | rfl | (simp; done)
          · repeat' (first | with_reducible assumption | with_reducible refine Row.put ?_ (by omega) | with_reducible refine Row.up_ ?_ (by first | omega | (simp <;> omega)) _ | with_reducible refine Row.plus_ ?_ (by first | omega | (simp <;> omega)) _ | with_reducible apply Row.drew)
          · repeat' (first | with_reducible assumption | with_reducible refine Row.put ?_ (by omega) | with_reducible refine Row.up_ ?_ (by first | omega | (simp <;> omega)) _ | with_reducible refine Row.plus_ ?_ (by first | omega | (simp <;> omega)) _ | with_reducible apply Row.drew)
        case measure => simp [intOf]; omega
    · have hkn : q = il.length := by omega
      subst hkn
      have C := Lib.hid (fun W h1 h2 => run_any A wl.length c wl mi nu de ho wi I il.length id' il W h1 hc HM.out.ok h2 (by omega))
      have C2 := Lib.hid (fun W h1 h2 => refRun_any A wl.length c wl mi nu de ho wi I il.length id' il W h1 hc HM.out.ok h2 (by omega))
      rw [← hid.out] at C C2
      have HT := Lib.hid hst
      clear hE hB1 hB2 hR hIR hst hid
      go_wp2_with fail
      refine (C.out _ HT.out.r_ HT.out.ir_).mono ?_
      rintro ee Z ⟨rfl, hEZ⟩
      have hst := HT.out.ext hEZ
      clear hEZ HT
      clear p0 p1 p2 p3 p4 p5 pF pL pB
      clear r0 r1 r2 r3 r4 r5 rF rL rB
      have hB1 := hst.b1
      have hB2 := hst.b2
      have p0 := hB1.cell 0 (by simp)
      have p1 := hB1.cell 1 (by simp)
      have p2 := hB1.cell 2 (by simp)
      have p3 := hB1.cell 3 (by simp)
      have p4 := hB1.cell 4 (by simp)
      have p5 := hB1.cell 5 (by simp)
      simp only [List.getElem?_cons_zero, List.getElem?_cons_succ] at p0 p1 p2 p3 p4 p5
      have pF := hB1.free
      have pL := hB1.lt
      have pB := hB1.base
      have r0 := hB2.cell 0 (by simp)
      have r1 := hB2.cell 1 (by simp)
      have r2 := hB2.cell 2 (by simp)
      have r3 := hB2.cell 3 (by simp)
      have r4 := hB2.cell 4 (by simp)
      have r5 := hB2.cell 5 (by simp)
      simp only [List.getElem?_cons_zero, List.getElem?_cons_succ] at r0 r1 r2 r3 r4 r5
      have rF := hB2.free
      have rL := hB2.lt
      have rB := hB2.base
      have HT := Lib.hid hst
      clear hB1 hB2 hst
      go_wp2_with fail
      refine wp_at fun V hV => ?_
      obtain ⟨Q, hQ⟩ : ∃ P, P = Z.heap.size := ⟨_, rfl⟩
      have hEV : Ext Z V := by
        rw [hV]
        repeat' (first | with_reducible assumption | with_reducible exact Ext.refl _ | with_reducible apply Ext.alloc | with_reducible apply Ext.drew | with_reducible apply Ext.drewN | with_reducible apply Ext.plus_ | with_reducible refine Ext.put ?_ (by omega))
      have hst := HT.out.ext hEV
      have hPZ : P ≤ Z.heap.size := Nat.le_of_lt HT.out.b1.lt
      have hB3 : Box P (rcells ⟨s, g, h, t, e, a⟩) Q V := by
        rw [hV]
        repeat' (first | with_reducible assumption | ((with_reducible refine Box.fresh ?fb ?fn ?fr); (case fb => first | omega | (simp <;> omega)); (case fn => first | omega | (simp <;> omega)); (case fr => rfl)) | with_reducible apply Box.up | with_reducible apply Box.drew_ | with_reducible apply Box.drewN_ | with_reducible apply Box.plus_ | with_reducible apply Box.put | with_reducible refine Box.off ?_ (by omega))
        all_goals first | rfl | (simp; done)
      rw [← hQ]
      clear hV hEV hQ HT hPZ
      clear p0 p1 p2 p3 p4 p5 pF pL pB
      clear r0 r1 r2 r3 r4 r5 rF rL rB
      have hB1 := hst.b1
      have hB2 := hst.b2
      have p0 := hB1.cell 0 (by simp)
      have p1 := hB1.cell 1 (by simp)
      have p2 := hB1.cell 2 (by simp)
      have p3 := hB1.cell 3 (by simp)
      have p4 := hB1.cell 4 (by simp)
      have p5 := hB1.cell 5 (by simp)
      simp only [List.getElem?_cons_zero, List.getElem?_cons_succ] at p0 p1 p2 p3 p4 p5
      have pF := hB1.free
      have pL := hB1.lt
      have pB := hB1.base
      have r0 := hB2.cell 0 (by simp)
      have r1 := hB2.cell 1 (by simp)
      have r2 := hB2.cell 2 (by simp)
      have r3 := hB2.cell 3 (by simp)
      have r4 := hB2.cell 4 (by simp)
      have r5 := hB2.cell 5 (by simp)
      simp only [List.getElem?_cons_zero, List.getElem?_cons_succ] at r0 r1 r2 r3 r4 r5
      have rF := hB2.free
      have rL := hB2.lt
      have rB := hB2.base
      have o0 := hB3.cell 0 (by simp)
      have o1 := hB3.cell 1 (by simp)
      have o2 := hB3.cell 2 (by simp)
      have o3 := hB3.cell 3 (by simp)
      have o4 := hB3.cell 4 (by simp)
      have o5 := hB3.cell 5 (by simp)
      simp only [List.getElem?_cons_zero, List.getElem?_cons_succ] at o0 o1 o2 o3 o4 o5
      have oF := hB3.free
      have oL := hB3.lt
      have oB := hB3.base
      have HR := Lib.hid (And.intro hst.r_ hst.ir_)
      have HE := Lib.hid hst.e
      clear hB1 hB2 hB3 hst
      apply wp_region_ext 13 [is _, is _, is (.bool true), is _, is _, is _, is _, is (rv ⟨s, g, h, t, e, a⟩), is (.bool true), is _, is _, is (.bool true), is _] (by kernel_rfl) (by kernel_rfl) rfl
      case hops =>
        simp only [List.take_succ_cons, List.take_zero]
        refine ⟨?_, ?_, ?_, ?_, ?_, ?_, ?_, ?_, ?_, ?_, ?_, ?_, ?_, trivial⟩
        all_goals
          intro vs x hd
          simp only [putAll, Act.put, List.setIfInBounds_toArray, List.set_cons_succ, List.set_cons_zero, Nat.zero_add, Nat.reduceAdd]
          simp [depFacts, is, isRow, isRowN, isBox, dataE] at hd
          try simp only [World.plus_plus] at hd
          simp only [Region.wanted, if_true, comes]
          try simp [yielded, hd, comes]
          go_simp
          try go_bits
          first
            | exact ⟨Ext.refl _, rfl⟩
            | exact rfl
            | exact ⟨(Ext.refl _).alloc _, _, rfl, Cells.new _ _ _ _ rfl⟩
            | exact ⟨(Ext.refl _).alloc _, _, rfl, Box.new _ _ _ _ (by simp [World.le_plus]) rfl⟩
            | ((go_at_call 10); refine (C2.out _ (HR.out.1.lift (by repeat (first | exact Ext.refl _ | assumption | apply Ext.plus_ | apply Ext.alloc | apply Ext.drew))) (HR.out.2.lift (by repeat (first | exact Ext.refl _ | assumption | apply Ext.plus_ | apply Ext.alloc | apply Ext.drew)))).mono ?_; rintro e w' ⟨rfl, hE⟩; exact ⟨_, rfl, hE, rfl⟩)
            | ((go_at_call 18); refine (awake_any _).mono ?_; rintro e w' ⟨rfl, hE⟩; exact ⟨_, rfl, hE, rfl⟩)
      case hst => exact ⟨(by apply is.st), (by apply is.st), (by apply is.st), (by apply is.st), (by apply is.st), (by apply is.st), (by apply is.st), (by apply is.st), (by apply is.st), (by apply is.st), (by apply is.st), (by apply is.st), (by apply is.st), trivial⟩
      case hfin =>
        intro vs x hf
        try simp only [World.plus_plus] at hf ⊢
        simp only [List.take_succ_cons, List.take_zero, List.drop_succ_cons, List.drop_zero, putAll, Act.put, List.setIfInBounds_toArray, List.set_cons_succ, List.set_cons_zero]
        simp only [facts, is, Nat.zero_add, Nat.reduceAdd] at hf
        simp only [Nat.zero_add, Nat.reduceAdd, hf]
        clear hf
        go_wp2
        go_ret
        refine ⟨rfl, ?_⟩
        have hE := HE.out
        repeat' (first | with_reducible assumption | with_reducible exact Ext.refl _ | with_reducible apply Ext.alloc | with_reducible apply Ext.drew | with_reducible apply Ext.drewN | with_reducible apply Ext.plus_ | with_reducible refine Ext.put ?_ (by omega))
theorem law_rrun (v0 v1 : Value) (w : World) (p0 : ∃ A n c, ∃ l : List Int, v0 = .slice A n c ∧ ArgRow w A n c (l.map (Value.int .i64)) ∧ ∀ x ∈ l, I64 x)
    (p1 : ∃ A n c, ∃ l : List Int, v1 = .slice A n c ∧ ArgRow w A n c (l.map (Value.int .i64)) ∧ ∀ x ∈ l, I64 x) :
    Calls Try.prog 4 #[v0, v1] w fun ee w' => ee = .returned (.bool true) ∧ Ext w w' := by
  obtain ⟨B, k, d, ll, rfl, ⟨hB, hkd, hdm, _⟩, _⟩ := p0
  obtain ⟨M, mk, md, ml, rfl, ⟨hM, hmd, hmm, _⟩, _⟩ := p1
  exact rrun_go B k d ll M mk md ml w hB (by omega) hM (by omega) hmd
end Go.Proofs.Ytidndcigloohoaa
