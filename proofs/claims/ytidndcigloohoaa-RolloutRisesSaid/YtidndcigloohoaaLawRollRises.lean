/- RolloutRises: the walk. -/
import Derived.Test.YtidndcigloohoaaRollLoop
import Derived.Test.YtidndcigloohoaaOpenRoll
import Derived.Deep.CutRange
set_option linter.unusedVariables false
namespace Go.Proofs.Ytidndcigloohoaa
open Go.RowKit Go.Rg

/-- Running or paused. -/
def Live (r : Ro) : Prop := r.s = 1 ∨ r.s = 4
theorem wv_next {l : List Int} {mi nu de ho wi g : Int} (hP : PlanOK l mi nu de ho wi) (h0 : 0 ≤ g) (h1 : g + 1 < l.length) : wv l mi nu de ho wi g ≤ wv l mi nu de ho wi (g + 1) := by
  unfold wv
  rw [if_pos ⟨hP, h0, by omega⟩, if_pos ⟨hP, by omega, h1⟩]
  have := (hP.w (g + 1).toNat (by omega)).2.2
  rw [show (g + 1).toNat - 1 = g.toNat by omega] at this
  rcases this with h | h <;> omega
theorem weight_live {l : List Int} {mi nu de ho wi : Int} {r : Ro} (h : Live r) : weightR l mi nu de ho wi r = wv l mi nu de ho wi r.g := if_pos h
theorem rise_live {l : List Int} {mi nu de ho wi : Int} {r : Ro} {x y : Int} (hP : PlanOK l mi nu de ho wi) (hI : InvR l.length ho r) (h1 : Live r) (h2 : Live (stepR l mi nu de ho wi r x y)) :
    weightR l mi nu de ho wi r ≤ weightR l mi nu de ho wi (stepR l mi nu de ho wi r x y) := by
  rw [weight_live h1, weight_live h2]
  have key : (stepR l mi nu de ho wi r x y).g = r.g ∨ ((stepR l mi nu de ho wi r x y).g = r.g + 1 ∧ r.g + 1 < l.length) := by
    have hn : ∀ s, s = 0 ∨ s = 2 ∨ s = 3 → ¬ Live (at_ s) := fun s hs h => by
      rcases h with h | h
      · have : s = 1 := h
        omega
      · have : s = 4 := h
        omega
    revert h2
    unfold stepR
    split
    · unfold tickR
      split
      · split
        · split
          · intro h2; exact absurd h2 (hn 3 (by omega))
          · split
            · intro _; exact .inl rfl
            · split
              · unfold healR
                split
                · split
                  · rename_i hg; intro _; exact .inr ⟨rfl, hg⟩
                  · intro h2; exact absurd h2 (hn 2 (by omega))
                · intro _; exact .inl rfl
              · intro _; exact .inl rfl
        · intro _; exact .inl rfl
      · intro _; exact .inl rfl
    split
    · unfold obsR; split <;> exact fun _ => .inl rfl
    split
    · unfold obsR; split <;> exact fun _ => .inl rfl
    split
    · split
      · unfold cmdR
        have hs0 : ¬ r.s = 0 := fun h => by rcases h1 with h1 | h1 <;> omega
        repeat' split
        all_goals intro h2
        all_goals first | exact .inl rfl | exact absurd h2 (hn _ (by omega)) | exact absurd (by assumption) hs0
      · intro _; exact .inl rfl
    · intro _; exact .inl rfl
  rcases key with h | ⟨h, h3⟩
  · rw [h]; exact Int.le_refl _
  · rw [h]; exact wv_next hP hI.1 h3
theorem rise_obs {l : List Int} {mi nu de ho wi : Int} {r : Ro} {x y : Int} (h : x = 2 ∨ x = 3) : weightR l mi nu de ho wi (stepR l mi nu de ho wi r x y) = weightR l mi nu de ho wi r := by
  have hb : ∀ b, weightR l mi nu de ho wi (obsR r b) = weightR l mi nu de ho wi r := fun b => by
    unfold obsR
    split <;> rfl
  rcases h with rfl | rfl
  · exact hb false
  · exact hb true

theorem rweight_c (A : Option Addr) (n c : Nat) (l : List Int) (mi nu de ho wi s g h t e a : Int) (w : World) (hr : Row w w.heap.size 1 A n (ints l)) (hc : n ≤ c) (hn : n ≤ 9223372036854775807) :
    Calls Try.prog 14 #[.agg #[.int .i64 s, .int .i64 g, .int .i64 h, .int .i64 t, .int .i64 e, .int .i64 a], pl A n c mi nu de ho wi] w fun ee w' => ee = .returned (.int .i64 (weightR l mi nu de ho wi ⟨s, g, h, t, e, a⟩)) ∧ Ext w w' :=
  rweight_any A n c l mi nu de ho wi ⟨s, g, h, t, e, a⟩ w hr hc hn
set_option maxRecDepth 100000 in
set_option maxHeartbeats 4000000 in
theorem rrises_go (B : Option Addr) (k d : Nat) (ll : List Int) (M : Option Addr) (mk md : Nat) (ml : List Int) (w : World) (hB : Row w w.heap.size 1 B k (ints ll)) (hk : k ≤ 9223372036854775807)
    (hM : Row w w.heap.size 1 M mk (ints ml)) (hmk : mk ≤ 9223372036854775807) (hmd : mk ≤ md) :
    Calls Try.prog 7 #[.slice B k d, .slice M mk md] w fun ee w' => ee = .returned (.bool true) ∧ Ext w w' := by
  go_enter Try.func7, Try.ntmps7
  go_wp2_with fail
  refine (made_any B k d ll M mk md ml _ (hB.lift (by repeat (first | exact Ext.refl _ | assumption | apply Ext.plus_ | apply Ext.alloc | apply Ext.drew))) hk (hM.lift (by repeat (first | exact Ext.refl _ | assumption | apply Ext.plus_ | apply Ext.alloc | apply Ext.drew))) hmk hmd).mono ?_
  rintro ee X ⟨A, c, wl, mi, nu, de, ho, wi, I, id', il, rfl, hsm, hc, hR, hIR, hil, hE⟩
  obtain ⟨P, hP⟩ : ∃ P, P = X.heap.size := ⟨_, rfl⟩
  rw [← hP] at hR hIR
  have hwP : w.heap.size ≤ P := by rw [hP]; exact hE.size
  have H := Lib.hid (And.intro hE (And.intro hR (And.intro hIR hP)))
  have HM := Lib.hid hsm
  clear hB hM hE hR hIR hsm hP
  go_wp2
  refine wp_at fun W hW => ?_
  obtain ⟨hE, hR, hIR, hP⟩ := H.out
  have hB1 : Box P (pcells A wl.length c mi nu de ho wi) P W := by
    rw [hW]
    repeat' (first | with_reducible assumption | ((with_reducible refine Box.fresh ?fb ?fn ?fr); (case fb => first | omega | (simp <;> omega)); (case fn => first | omega | (simp <;> omega)); (case fr => rfl)) | with_reducible apply Box.up | with_reducible apply Box.drew_ | with_reducible apply Box.drewN_ | with_reducible apply Box.plus_ | with_reducible apply Box.put | with_reducible refine Box.off ?_ (by omega))
    all_goals first | rfl | (simp; done)
  have hB2 : Box P (rcells ⟨0, 0, 0, 0, 0, 0⟩) (P + 1) W := by
    rw [hW]
    repeat' (first | with_reducible assumption | ((with_reducible refine Box.fresh ?fb ?fn ?fr); (case fb => first | omega | (simp <;> omega)); (case fn => first | omega | (simp <;> omega)); (case fr => rfl)) | with_reducible apply Box.up | with_reducible apply Box.drew_ | with_reducible apply Box.drewN_ | with_reducible apply Box.plus_ | with_reducible apply Box.put | with_reducible refine Box.off ?_ (by omega))
    all_goals first | rfl | (simp; done)
  replace hE : Ext w W := by
    rw [hW]
    repeat' (first | with_reducible assumption | with_reducible exact Ext.refl _ | with_reducible apply Ext.alloc | with_reducible apply Ext.drew | with_reducible apply Ext.drewN | with_reducible apply Ext.plus_ | with_reducible refine Ext.put ?_ (by omega))
  replace hR : Row W P 1 A wl.length (ints wl) := by
    rw [hW]
    repeat' (first | with_reducible assumption | with_reducible refine Row.put ?_ (by omega) | with_reducible refine Row.up_ ?_ (by first | omega | (simp <;> omega)) _ | with_reducible refine Row.plus_ ?_ (by first | omega | (simp <;> omega)) _ | with_reducible apply Row.drew)
  replace hIR : Row W P 2 I il.length (icells il) := by
    rw [hW]
    repeat' (first | with_reducible assumption | with_reducible refine Row.put ?_ (by omega) | with_reducible refine Row.up_ ?_ (by first | omega | (simp <;> omega)) _ | with_reducible refine Row.plus_ ?_ (by first | omega | (simp <;> omega)) _ | with_reducible apply Row.drew)
  rw [← hP]
  clear hW hP H
  have hst : St w W P A wl c mi nu de ho wi I il (P + 1) ⟨0, 0, 0, 0, 0, 0⟩ := ⟨hE, hB1, hB2, hR, hIR⟩
  clear hE hB1 hB2 hR hIR
  go_loopg [8] il.length (fun gk i wr => ∃ (q : Nat) (r : Ro), q ≤ il.length ∧ gk = il.length - q ∧ i = .int .i64 q ∧ Hid (r = runR wl mi nu de ho wi il q) ∧ Hid (St w wr P A wl c mi nu de ho wi I il (P + 1) r))
  case atStart => exact ⟨0, _, Nat.zero_le _, rfl, rfl, Lib.hid rfl, Lib.hid hst⟩
  case round =>
    clear hst
    obtain ⟨q, ⟨s, g, h, t, e, a⟩, hq, hgk, rfl, hid, hst⟩ := hrel
    replace hst := hst.out
    have hE := hst.e
    have hB1 := hst.b1
    have hB2 := hst.b2
    have hR := hst.r
    have hIR := hst.ir
    have p0 := hB1.cell 0 (by simp)
    have p1 := hB1.cell 1 (by simp)
    have p2 := hB1.cell 2 (by simp)
    have p3 := hB1.cell 3 (by simp)
    have p4 := hB1.cell 4 (by simp)
    have p5 := hB1.cell 5 (by simp)
    simp only [List.getElem?_cons_zero, List.getElem?_cons_succ] at p0 p1 p2 p3 p4 p5
    have pF := hB1.free
    have pL := hB1.lt
    have pB := hB1.base
    have r0 := hB2.cell 0 (by simp)
    have r1 := hB2.cell 1 (by simp)
    have r2 := hB2.cell 2 (by simp)
    have r3 := hB2.cell 3 (by simp)
    have r4 := hB2.cell 4 (by simp)
    have r5 := hB2.cell 5 (by simp)
    simp only [List.getElem?_cons_zero, List.getElem?_cons_succ] at r0 r1 r2 r3 r4 r5
    have rF := hB2.free
    have rL := hB2.lt
    have rB := hB2.base
    by_cases hlt : q < il.length
    · obtain ⟨b, o, kx, ky, rfl, hb, hz, c0, c1⟩ := Row.inp_at hIR hlt
      have hI := inv_run HM.out.ok il q
      have hI2 := inv_run HM.out.ok il (q + 1)
      have hS := runR_succ (l := wl) (mi := mi) (nu := nu) (de := de) (ho := ho) (wi := wi) hz
      rw [hS] at hI2
      rw [← hid.out] at hI hI2 hS
      have C := Lib.hid (fun W hW => step_any A wl.length c wl mi nu de ho wi ⟨s, g, h, t, e, a⟩ kx ky W hW hc HM.out.ok hI)
      have hnn : wl.length ≤ 9223372036854775807 := by
        have := HM.out.n3
        omega
      have F1 : Live ⟨s, g, h, t, e, a⟩ → Live (stepR wl mi nu de ho wi ⟨s, g, h, t, e, a⟩ kx ky) → _ ≤ _ := rise_live HM.out.ok hI
      have F2 : kx = 2 ∨ kx = 3 → _ = _ := rise_obs (l := wl) (mi := mi) (nu := nu) (de := de) (ho := ho) (wi := wi) (r := ⟨s, g, h, t, e, a⟩) (x := kx) (y := ky)
      obtain ⟨⟨s', g', h', t', e', a'⟩, hrr⟩ : ∃ rr, rr = stepR wl mi nu de ho wi ⟨s, g, h, t, e, a⟩ kx ky := ⟨_, rfl⟩
      rw [← hrr] at C hS F1 F2 hI2
      obtain ⟨i1, i2, i3, i4⟩ := hI2
      simp only at i1 i2 i3 i4
      have HF := Lib.hid (And.intro F1 F2)
      have HS := Lib.hid hS
      have HT := Lib.hid hst
      have HG := Lib.hid hgk
      have HR := Lib.hid hst.r_
      have hho := HM.out.ho3
      have hn3 := HM.out.n3
      clear hI hS hE hB1 hB2 hR hIR hst hz hrr F1 F2 hid hgk
      go_wp2_with fail
      apply wp_region_ext 8 [is _, is _, is _, is _, is _, is _, is (rv ⟨s', g', h', t', e', a'⟩), isBox wr.heap.size [.int .i64 0, .int .i64 0, .int .i64 0, .int .i64 0, .int .i64 0, .int .i64 0]] (by kernel_rfl) (by kernel_rfl) rfl
      case hops =>
        simp only [List.take_succ_cons, List.take_zero]
        refine ⟨?_, ?_, ?_, ?_, ?_, ?_, ?_, ?_, trivial⟩
        all_goals
          intro vs x hd
          simp only [putAll, Act.put, List.setIfInBounds_toArray, List.set_cons_succ, List.set_cons_zero, Nat.zero_add, Nat.reduceAdd]
          simp [depFacts, is, isRow, isRowN, isBox, dataE] at hd
          try simp only [World.plus_plus] at hd
          simp only [Region.wanted, if_true, comes]
          try simp [yielded, hd, comes]
          go_simp
          try go_bits
          first
            | exact ⟨Ext.refl _, rfl⟩
            | exact rfl
            | exact ⟨(Ext.refl _).alloc _, _, rfl, Cells.new _ _ _ _ rfl⟩
            | exact ⟨(Ext.refl _).alloc _, _, rfl, Box.new _ _ _ _ (by simp [World.le_plus]) rfl⟩
            | (refine (C.out _ (HR.out.lift (by repeat (first | exact Ext.refl _ | assumption | apply Ext.plus_ | apply Ext.alloc | apply Ext.drew)))).mono ?_; rintro e w' ⟨rfl, hE⟩; exact ⟨_, rfl, hE, rfl⟩)
      case hst => exact ⟨(by apply is.st), (by apply is.st), (by apply is.st), (by apply is.st), (by apply is.st), (by apply is.st), (by apply is.st), (by apply isBox.st), trivial⟩
      case hfin =>
        intro vs x hf
        try simp only [World.plus_plus] at hf ⊢
        simp only [List.take_succ_cons, List.take_zero, List.drop_succ_cons, List.drop_zero, putAll, Act.put, List.setIfInBounds_toArray, List.set_cons_succ, List.set_cons_zero]
        simp only [facts, is, Nat.zero_add, Nat.reduceAdd] at hf
        have f7 := hf.2.2.2.2.2.2.2.1
        simp only [Nat.zero_add, Nat.reduceAdd, hf]
        clear hf
        obtain ⟨b3, hv3, hB3⟩ := f7
        simp only [hv3]
        refine wl_at fun Y hY => ?_
        rw [← hY] at hB3
        have hEY : Ext wr Y := by
          rw [hY]
          exact (Ext.refl wr).plus_ _
        have hst := HT.out.ext hEY
        replace c0 := hEY.cell c0
        replace c1 := hEY.cell c1
        have hb3 : P + 1 < b3 := by
          have h1 := hB3.base
          have h2 := HT.out.b2.lt
          omega
        replace hB3 := Box.rebase hB3 (show P ≤ b3 by omega)
        clear hv3 hY hEY HT HR
        clear p0 p1 p2 p3 p4 p5 pF pL pB
        clear r0 r1 r2 r3 r4 r5 rF rL rB
        have hB1 := hst.b1
        have hB2 := hst.b2
        have p0 := hB1.cell 0 (by simp)
        have p1 := hB1.cell 1 (by simp)
        have p2 := hB1.cell 2 (by simp)
        have p3 := hB1.cell 3 (by simp)
        have p4 := hB1.cell 4 (by simp)
        have p5 := hB1.cell 5 (by simp)
        simp only [List.getElem?_cons_zero, List.getElem?_cons_succ] at p0 p1 p2 p3 p4 p5
        have pF := hB1.free
        have pL := hB1.lt
        have pB := hB1.base
        have r0 := hB2.cell 0 (by simp)
        have r1 := hB2.cell 1 (by simp)
        have r2 := hB2.cell 2 (by simp)
        have r3 := hB2.cell 3 (by simp)
        have r4 := hB2.cell 4 (by simp)
        have r5 := hB2.cell 5 (by simp)
        simp only [List.getElem?_cons_zero, List.getElem?_cons_succ] at r0 r1 r2 r3 r4 r5
        have rF := hB2.free
        have rL := hB2.lt
        have rB := hB2.base
        clear hB1 hB2
        have o0 := hB3.cell 0 (by simp)
        have o1 := hB3.cell 1 (by simp)
        have o2 := hB3.cell 2 (by simp)
        have o3 := hB3.cell 3 (by simp)
        have o4 := hB3.cell 4 (by simp)
        have o5 := hB3.cell 5 (by simp)
        simp only [List.getElem?_cons_zero, List.getElem?_cons_succ] at o0 o1 o2 o3 o4 o5
        have oF := hB3.free
        have oL := hB3.lt
        have oB := hB3.base
        have HT := Lib.hid (And.intro hst hB3)
        clear hst hB3
        go_upto_region 7 with fail
        refine wp_at fun V hV => ?_
        obtain ⟨hst, hB3⟩ := HT.out
        have hst : St w V P A wl c mi nu de ho wi (some ⟨b, o, none⟩) il (P + 1) ⟨s, g, h, t, e, a⟩ := by
          obtain ⟨hE, hB1, hB2, hR, hIR⟩ := hst
          rw [hV]
          refine ⟨?_, ?_, ?_, ?_, ?_⟩
          · repeat' (first | with_reducible assumption | with_reducible exact Ext.refl _ | with_reducible apply Ext.alloc | with_reducible apply Ext.drew | with_reducible apply Ext.drewN | with_reducible apply Ext.plus_ | with_reducible refine Ext.put ?_ (by omega))
          · repeat' (first | with_reducible assumption | ((with_reducible refine Box.fresh ?fb ?fn ?fr); (case fb => first | omega | (simp <;> omega)); (case fn => first | omega | (simp <;> omega)); (case fr => rfl)) | with_reducible apply Box.up | with_reducible apply Box.drew_ | with_reducible apply Box.drewN_ | with_reducible apply Box.plus_ | with_reducible apply Box.put | with_reducible refine Box.off ?_ (by omega))
            all_goals first | rfl | (simp; done)
          · repeat' (first | with_reducible assumption | ((with_reducible refine Box.fresh ?fb ?fn ?fr); (case fb => first | omega | (simp <;> omega)); (case fn => first | omega | (simp <;> omega)); (case fr => rfl)) | with_reducible apply Box.up | with_reducible apply Box.drew_ | with_reducible apply Box.drewN_ | with_reducible apply Box.plus_ | with_reducible apply Box.put | with_reducible refine Box.off ?_ (by omega))
            all_goals first | rfl | (simp; done)
          · repeat' (first | with_reducible assumption | with_reducible refine Row.put ?_ (by omega) | with_reducible refine Row.up_ ?_ (by first | omega | (simp <;> omega)) _ | with_reducible refine Row.plus_ ?_ (by first | omega | (simp <;> omega)) _ | with_reducible apply Row.drew)
          · repeat' (first | with_reducible assumption | with_reducible refine Row.put ?_ (by omega) | with_reducible refine Row.up_ ?_ (by first | omega | (simp <;> omega)) _ | with_reducible refine Row.plus_ ?_ (by first | omega | (simp <;> omega)) _ | with_reducible apply Row.drew)
        replace hB3 : Box P (rcells ⟨s', g', h', t', e', a'⟩) b3 V := by
          rw [hV]
          repeat' (first | with_reducible assumption | ((with_reducible refine Box.fresh ?fb ?fn ?fr); (case fb => first | omega | (simp <;> omega)); (case fn => first | omega | (simp <;> omega)); (case fr => rfl)) | with_reducible apply Box.up | with_reducible apply Box.drew_ | with_reducible apply Box.drewN_ | with_reducible apply Box.plus_ | with_reducible apply Box.put | with_reducible refine Box.off ?_ (by omega))
          all_goals first | rfl | (simp; done)
        replace c0 : V.cell? ⟨b, o + q * 2, none⟩ = some (.int .i64 kx) := by
          rw [hV]
          repeat' (first | with_reducible assumption | with_reducible refine cell_off ?_ (by omega))
        replace c1 : V.cell? ⟨b, o + q * 2 + 1, none⟩ = some (.int .i64 ky) := by
          rw [hV]
          repeat' (first | with_reducible assumption | with_reducible refine cell_off ?_ (by omega))
        clear hV HT
        clear o0 o1 o2 o3 o4 o5 oF oL oB
        clear p0 p1 p2 p3 p4 p5 pF pL pB
        clear r0 r1 r2 r3 r4 r5 rF rL rB
        have hB1 := hst.b1
        have hB2 := hst.b2
        have p0 := hB1.cell 0 (by simp)
        have p1 := hB1.cell 1 (by simp)
        have p2 := hB1.cell 2 (by simp)
        have p3 := hB1.cell 3 (by simp)
        have p4 := hB1.cell 4 (by simp)
        have p5 := hB1.cell 5 (by simp)
        simp only [List.getElem?_cons_zero, List.getElem?_cons_succ] at p0 p1 p2 p3 p4 p5
        have pF := hB1.free
        have pL := hB1.lt
        have pB := hB1.base
        have r0 := hB2.cell 0 (by simp)
        have r1 := hB2.cell 1 (by simp)
        have r2 := hB2.cell 2 (by simp)
        have r3 := hB2.cell 3 (by simp)
        have r4 := hB2.cell 4 (by simp)
        have r5 := hB2.cell 5 (by simp)
        simp only [List.getElem?_cons_zero, List.getElem?_cons_succ] at r0 r1 r2 r3 r4 r5
        have rF := hB2.free
        have rL := hB2.lt
        have rB := hB2.base
        clear hB1 hB2
        have o0 := hB3.cell 0 (by simp)
        have o1 := hB3.cell 1 (by simp)
        have o2 := hB3.cell 2 (by simp)
        have o3 := hB3.cell 3 (by simp)
        have o4 := hB3.cell 4 (by simp)
        have o5 := hB3.cell 5 (by simp)
        simp only [List.getElem?_cons_zero, List.getElem?_cons_succ] at o0 o1 o2 o3 o4 o5
        have oF := hB3.free
        have oL := hB3.lt
        have oB := hB3.base
        have HT := Lib.hid (And.intro hst hB3)
        have HR := Lib.hid hst.r_
        clear hst hB3
        go_cut [10] from 17 to 104 (fun s10 wx => ∃ lv : Bool, s10 = .bool lv ∧ wx = V ∧ Hid (lv = true → weightR wl mi nu de ho wi ⟨s, g, h, t, e, a⟩ ≤ weightR wl mi nu de ho wi ⟨s', g', h', t', e', a'⟩))
        case first =>
          by_cases h1 : s = 1
          · by_cases h3 : s' = 1
            · have HL := Lib.hid (HF.out.1 (.inl h1) (.inl h3))
              subst h1
              subst h3
              go_wp2_with fail
              go_meet
              case rel => exact ⟨true, rfl, rfl, Lib.hid (fun _ => HL.out)⟩
            · by_cases h4 : s' = 4
              · have HL := Lib.hid (HF.out.1 (.inl h1) (.inr h4))
                subst h1
                subst h4
                go_wp2_with fail
                go_meet
                case rel => exact ⟨true, rfl, rfl, Lib.hid (fun _ => HL.out)⟩
              · subst h1
                have e3 : (s' == 1) = false := by simp [h3]
                have e4 : (s' == 4) = false := by simp [h4]
                go_wp2_with fail
                go_meet
                case rel => exact ⟨false, rfl, rfl, Lib.hid (fun h => by cases h)⟩
          · have e1 : (s == 1) = false := by simp [h1]
            by_cases h2 : s = 4
            · by_cases h3 : s' = 1
              · have HL := Lib.hid (HF.out.1 (.inr h2) (.inl h3))
                subst h2
                subst h3
                go_wp2_with fail
                go_meet
                case rel => exact ⟨true, rfl, rfl, Lib.hid (fun _ => HL.out)⟩
              · by_cases h4 : s' = 4
                · have HL := Lib.hid (HF.out.1 (.inr h2) (.inr h4))
                  subst h2
                  subst h4
                  go_wp2_with fail
                  go_meet
                  case rel => exact ⟨true, rfl, rfl, Lib.hid (fun _ => HL.out)⟩
                · subst h2
                  have e3 : (s' == 1) = false := by simp [h3]
                  have e4 : (s' == 4) = false := by simp [h4]
                  go_wp2_with fail
                  go_meet
                  case rel => exact ⟨false, rfl, rfl, Lib.hid (fun h => by cases h)⟩
            · have e2 : (s == 4) = false := by simp [h2]
              go_wp2_with fail
              go_meet
              case rel => exact ⟨false, rfl, rfl, Lib.hid (fun h => by cases h)⟩
        case rest =>
        obtain ⟨lv, rfl, rfl, hlv⟩ := hcut
        go_upto_region 8 with fail
        go_cut [57] from 17 to 104 (fun s57 wx => s57 = .bool false ∧ Ext wc wx)
        case first =>
          cases lv
          · apply wp_region_ext 10 [is _, is (.bool false), is _, is _, is undef, is _, is _, is undef, is _, is _] (by kernel_rfl) (by kernel_rfl) rfl
            case hops =>
              simp only [List.take_succ_cons, List.take_zero]
              refine ⟨?_, ?_, ?_, ?_, ?_, ?_, ?_, ?_, ?_, ?_, trivial⟩
              all_goals
                intro vs x hd
                simp only [putAll, Act.put, List.setIfInBounds_toArray, List.set_cons_succ, List.set_cons_zero, Nat.zero_add, Nat.reduceAdd]
                simp [depFacts, is, isRow, isRowN, isBox, dataE] at hd
                try simp only [World.plus_plus] at hd
                simp only [Region.wanted, if_true, comes]
                try simp [yielded, hd, comes]
                go_simp
                try go_bits
                first
                  | exact ⟨Ext.refl _, rfl⟩
                  | exact rfl
                  | exact ⟨(Ext.refl _).alloc _, _, rfl, Cells.new _ _ _ _ rfl⟩
                  | exact ⟨(Ext.refl _).alloc _, _, rfl, Box.new _ _ _ _ (by simp [World.le_plus]) rfl⟩
            case hst => exact ⟨(by apply is.st), (by apply is.st), (by apply is.st), (by apply is.st), (by apply is.st), (by apply is.st), (by apply is.st), (by apply is.st), (by apply is.st), (by apply is.st), trivial⟩
            case hfin =>
              intro vs x hf
              try simp only [World.plus_plus] at hf ⊢
              simp only [List.take_succ_cons, List.take_zero, List.drop_succ_cons, List.drop_zero, putAll, Act.put, List.setIfInBounds_toArray, List.set_cons_succ, List.set_cons_zero]
              simp only [facts, is, Nat.zero_add, Nat.reduceAdd] at hf
              simp only [Nat.zero_add, Nat.reduceAdd, hf]
              clear hf
              go_wp2_with fail
              go_meet
              case rel => exact ⟨rfl, (by repeat (first | exact Ext.refl _ | assumption | apply Ext.plus_ | apply Ext.alloc | apply Ext.drew))⟩
          · have hle := hlv.out rfl
            obtain ⟨v1, hv1⟩ : ∃ v, v = weightR wl mi nu de ho wi ⟨s', g', h', t', e', a'⟩ := ⟨_, rfl⟩
            obtain ⟨v0, hv0⟩ : ∃ v, v = weightR wl mi nu de ho wi ⟨s, g, h, t, e, a⟩ := ⟨_, rfl⟩
            have hd : decide (weightR wl mi nu de ho wi ⟨s', g', h', t', e', a'⟩ < weightR wl mi nu de ho wi ⟨s, g, h, t, e, a⟩) = false := by
              simp only [decide_eq_false_iff_not]
              omega
            clear hle hv1 hv0
            apply wp_region_ext 10 [is _, is (.bool true), is _, is _, is (.int .i64 (weightR wl mi nu de ho wi ⟨s', g', h', t', e', a'⟩)), is _, is _, is (.int .i64 (weightR wl mi nu de ho wi ⟨s, g, h, t, e, a⟩)), is _, is _] (by kernel_rfl) (by kernel_rfl) rfl
            case hops =>
              simp only [List.take_succ_cons, List.take_zero]
              refine ⟨?_, ?_, ?_, ?_, ?_, ?_, ?_, ?_, ?_, ?_, trivial⟩
              all_goals
                intro vs x hd
                simp only [putAll, Act.put, List.setIfInBounds_toArray, List.set_cons_succ, List.set_cons_zero, Nat.zero_add, Nat.reduceAdd]
                simp [depFacts, is, isRow, isRowN, isBox, dataE] at hd
                try simp only [World.plus_plus] at hd
                simp only [Region.wanted, if_true, comes]
                try simp [yielded, hd, comes]
                go_simp
                try go_bits
                first
                  | exact ⟨Ext.refl _, rfl⟩
                  | exact rfl
                  | exact ⟨(Ext.refl _).alloc _, _, rfl, Cells.new _ _ _ _ rfl⟩
                  | exact ⟨(Ext.refl _).alloc _, _, rfl, Box.new _ _ _ _ (by simp [World.le_plus]) rfl⟩
                  | ((go_at_call 14); refine (rweight_c A wl.length c wl mi nu de ho wi _ _ _ _ _ _ _ (HR.out.lift (by repeat (first | exact Ext.refl _ | assumption | apply Ext.plus_ | apply Ext.alloc | apply Ext.drew))) hc hnn).mono ?_; rintro e w' ⟨rfl, hE⟩; exact ⟨_, rfl, hE, rfl⟩)
            case hst => exact ⟨(by apply is.st), (by apply is.st), (by apply is.st), (by apply is.st), (by apply is.st), (by apply is.st), (by apply is.st), (by apply is.st), (by apply is.st), (by apply is.st), trivial⟩
            case hfin =>
              intro vs x hf
              try simp only [World.plus_plus] at hf ⊢
              simp only [List.take_succ_cons, List.take_zero, List.drop_succ_cons, List.drop_zero, putAll, Act.put, List.setIfInBounds_toArray, List.set_cons_succ, List.set_cons_zero]
              simp only [facts, is, Nat.zero_add, Nat.reduceAdd] at hf
              simp only [Nat.zero_add, Nat.reduceAdd, hf]
              clear hf
              go_wp2_with fail
              go_meet
              case rel => exact ⟨rfl, (by repeat (first | exact Ext.refl _ | assumption | apply Ext.plus_ | apply Ext.alloc | apply Ext.drew))⟩
        case rest =>
        obtain ⟨rfl, hEx⟩ := hcut
        have hst := HT.out.1.ext hEx
        have hB3 := HT.out.2.ext hEx
        replace c0 := hEx.cell c0
        replace c1 := hEx.cell c1
        clear hEx HT HR
        clear o0 o1 o2 o3 o4 o5 oF oL oB
        clear p0 p1 p2 p3 p4 p5 pF pL pB
        clear r0 r1 r2 r3 r4 r5 rF rL rB
        have hB1 := hst.b1
        have hB2 := hst.b2
        have p0 := hB1.cell 0 (by simp)
        have p1 := hB1.cell 1 (by simp)
        have p2 := hB1.cell 2 (by simp)
        have p3 := hB1.cell 3 (by simp)
        have p4 := hB1.cell 4 (by simp)
        have p5 := hB1.cell 5 (by simp)
        simp only [List.getElem?_cons_zero, List.getElem?_cons_succ] at p0 p1 p2 p3 p4 p5
        have pF := hB1.free
        have pL := hB1.lt
        have pB := hB1.base
        have r0 := hB2.cell 0 (by simp)
        have r1 := hB2.cell 1 (by simp)
        have r2 := hB2.cell 2 (by simp)
        have r3 := hB2.cell 3 (by simp)
        have r4 := hB2.cell 4 (by simp)
        have r5 := hB2.cell 5 (by simp)
        simp only [List.getElem?_cons_zero, List.getElem?_cons_succ] at r0 r1 r2 r3 r4 r5
        have rF := hB2.free
        have rL := hB2.lt
        have rB := hB2.base
        clear hB1 hB2
        have o0 := hB3.cell 0 (by simp)
        have o1 := hB3.cell 1 (by simp)
        have o2 := hB3.cell 2 (by simp)
        have o3 := hB3.cell 3 (by simp)
        have o4 := hB3.cell 4 (by simp)
        have o5 := hB3.cell 5 (by simp)
        simp only [List.getElem?_cons_zero, List.getElem?_cons_succ] at o0 o1 o2 o3 o4 o5
        have oF := hB3.free
        have oL := hB3.lt
        have oB := hB3.base
        have HT := Lib.hid (And.intro hst hB3)
        have HR := Lib.hid hst.r_
        clear hst hB3
        go_upto_region 10 with fail
        go_cut [80] from 17 to 104 (fun s80 wx => s80 = .bool false ∧ Ext wc wx)
        case first =>
          by_cases h1 : kx = 2
          · have HW := Lib.hid (HF.out.2 (.inl h1))
            subst h1
            apply wp_region_ext 23 [is _, is _, is _, is _, is _, is _, is (.bool true), is _, is _, is _, is _, is _, is _, is _, is (.bool true), is _, is _, is (.int .i64 (weightR wl mi nu de ho wi ⟨s', g', h', t', e', a'⟩)), is _, is _, is (.int .i64 (weightR wl mi nu de ho wi ⟨s, g, h, t, e, a⟩)), is _, is _] (by kernel_rfl) (by kernel_rfl) rfl
            case hops =>
              simp only [List.take_succ_cons, List.take_zero]
              refine ⟨?_, ?_, ?_, ?_, ?_, ?_, ?_, ?_, ?_, ?_, ?_, ?_, ?_, ?_, ?_, ?_, ?_, ?_, ?_, ?_, ?_, ?_, ?_, trivial⟩
              all_goals
                intro vs x hd
                simp only [putAll, Act.put, List.setIfInBounds_toArray, List.set_cons_succ, List.set_cons_zero, Nat.zero_add, Nat.reduceAdd]
                simp [depFacts, is, isRow, isRowN, isBox, dataE] at hd
                try simp only [World.plus_plus] at hd
                simp only [Region.wanted, if_true, comes]
                try simp [yielded, hd, comes]
                go_simp
                try go_bits
                first
                  | exact ⟨Ext.refl _, rfl⟩
                  | exact rfl
                  | exact ⟨(Ext.refl _).alloc _, _, rfl, Cells.new _ _ _ _ rfl⟩
                  | exact ⟨(Ext.refl _).alloc _, _, rfl, Box.new _ _ _ _ (by simp [World.le_plus]) rfl⟩
                  | ((go_at_call 14); refine (rweight_c A wl.length c wl mi nu de ho wi _ _ _ _ _ _ _ (HR.out.lift (by repeat (first | exact Ext.refl _ | assumption | apply Ext.plus_ | apply Ext.alloc | apply Ext.drew))) hc hnn).mono ?_; rintro e w' ⟨rfl, hE⟩; exact ⟨_, rfl, hE, rfl⟩)
            case hst => exact ⟨(by apply is.st), (by apply is.st), (by apply is.st), (by apply is.st), (by apply is.st), (by apply is.st), (by apply is.st), (by apply is.st), (by apply is.st), (by apply is.st), (by apply is.st), (by apply is.st), (by apply is.st), (by apply is.st), (by apply is.st), (by apply is.st), (by apply is.st), (by apply is.st), (by apply is.st), (by apply is.st), (by apply is.st), (by apply is.st), (by apply is.st), trivial⟩
            case hfin =>
              intro vs x hf
              try simp only [World.plus_plus] at hf ⊢
              simp only [List.take_succ_cons, List.take_zero, List.drop_succ_cons, List.drop_zero, putAll, Act.put, List.setIfInBounds_toArray, List.set_cons_succ, List.set_cons_zero]
              simp only [facts, is, Nat.zero_add, Nat.reduceAdd] at hf
              simp only [Nat.zero_add, Nat.reduceAdd, hf]
              clear hf
              have hW := HW.out
              go_wp2_with fail
              go_meet
              case rel => exact ⟨rfl, (by repeat (first | exact Ext.refl _ | assumption | apply Ext.plus_ | apply Ext.alloc | apply Ext.drew))⟩
          by_cases h2 : kx = 3
          · have HW := Lib.hid (HF.out.2 (.inr h2))
            subst h2
            apply wp_region_ext 23 [is _, is _, is _, is _, is _, is _, is (.bool false), is _, is _, is _, is _, is _, is _, is _, is (.bool true), is _, is _, is (.int .i64 (weightR wl mi nu de ho wi ⟨s', g', h', t', e', a'⟩)), is _, is _, is (.int .i64 (weightR wl mi nu de ho wi ⟨s, g, h, t, e, a⟩)), is _, is _] (by kernel_rfl) (by kernel_rfl) rfl
            case hops =>
              simp only [List.take_succ_cons, List.take_zero]
              refine ⟨?_, ?_, ?_, ?_, ?_, ?_, ?_, ?_, ?_, ?_, ?_, ?_, ?_, ?_, ?_, ?_, ?_, ?_, ?_, ?_, ?_, ?_, ?_, trivial⟩
              all_goals
                intro vs x hd
                simp only [putAll, Act.put, List.setIfInBounds_toArray, List.set_cons_succ, List.set_cons_zero, Nat.zero_add, Nat.reduceAdd]
                simp [depFacts, is, isRow, isRowN, isBox, dataE] at hd
                try simp only [World.plus_plus] at hd
                simp only [Region.wanted, if_true, comes]
                try simp [yielded, hd, comes]
                go_simp
                try go_bits
                first
                  | exact ⟨Ext.refl _, rfl⟩
                  | exact rfl
                  | exact ⟨(Ext.refl _).alloc _, _, rfl, Cells.new _ _ _ _ rfl⟩
                  | exact ⟨(Ext.refl _).alloc _, _, rfl, Box.new _ _ _ _ (by simp [World.le_plus]) rfl⟩
                  | ((go_at_call 14); refine (rweight_c A wl.length c wl mi nu de ho wi _ _ _ _ _ _ _ (HR.out.lift (by repeat (first | exact Ext.refl _ | assumption | apply Ext.plus_ | apply Ext.alloc | apply Ext.drew))) hc hnn).mono ?_; rintro e w' ⟨rfl, hE⟩; exact ⟨_, rfl, hE, rfl⟩)
            case hst => exact ⟨(by apply is.st), (by apply is.st), (by apply is.st), (by apply is.st), (by apply is.st), (by apply is.st), (by apply is.st), (by apply is.st), (by apply is.st), (by apply is.st), (by apply is.st), (by apply is.st), (by apply is.st), (by apply is.st), (by apply is.st), (by apply is.st), (by apply is.st), (by apply is.st), (by apply is.st), (by apply is.st), (by apply is.st), (by apply is.st), (by apply is.st), trivial⟩
            case hfin =>
              intro vs x hf
              try simp only [World.plus_plus] at hf ⊢
              simp only [List.take_succ_cons, List.take_zero, List.drop_succ_cons, List.drop_zero, putAll, Act.put, List.setIfInBounds_toArray, List.set_cons_succ, List.set_cons_zero]
              simp only [facts, is, Nat.zero_add, Nat.reduceAdd] at hf
              simp only [Nat.zero_add, Nat.reduceAdd, hf]
              clear hf
              have hW := HW.out
              go_wp2_with fail
              go_meet
              case rel => exact ⟨rfl, (by repeat (first | exact Ext.refl _ | assumption | apply Ext.plus_ | apply Ext.alloc | apply Ext.drew))⟩
          · have e1 : (kx == 2) = false := by simp [h1]
            have e2 : (kx == 3) = false := by simp [h2]
            apply wp_region_ext 23 [is _, is _, is _, is _, is _, is _, is (.bool false), is _, is _, is _, is _, is _, is _, is _, is (.bool false), is _, is _, is undef, is _, is _, is undef, is _, is _] (by kernel_rfl) (by kernel_rfl) rfl
            case hops =>
              simp only [List.take_succ_cons, List.take_zero]
              refine ⟨?_, ?_, ?_, ?_, ?_, ?_, ?_, ?_, ?_, ?_, ?_, ?_, ?_, ?_, ?_, ?_, ?_, ?_, ?_, ?_, ?_, ?_, ?_, trivial⟩
              all_goals
                intro vs x hd
                simp only [putAll, Act.put, List.setIfInBounds_toArray, List.set_cons_succ, List.set_cons_zero, Nat.zero_add, Nat.reduceAdd]
                simp [depFacts, is, isRow, isRowN, isBox, dataE] at hd
                try simp only [World.plus_plus] at hd
                simp only [Region.wanted, if_true, comes]
                try simp [yielded, hd, comes]
                go_simp
                try go_bits
                first
                  | exact ⟨Ext.refl _, rfl⟩
                  | exact rfl
                  | exact ⟨(Ext.refl _).alloc _, _, rfl, Cells.new _ _ _ _ rfl⟩
                  | exact ⟨(Ext.refl _).alloc _, _, rfl, Box.new _ _ _ _ (by simp [World.le_plus]) rfl⟩
            case hst => exact ⟨(by apply is.st), (by apply is.st), (by apply is.st), (by apply is.st), (by apply is.st), (by apply is.st), (by apply is.st), (by apply is.st), (by apply is.st), (by apply is.st), (by apply is.st), (by apply is.st), (by apply is.st), (by apply is.st), (by apply is.st), (by apply is.st), (by apply is.st), (by apply is.st), (by apply is.st), (by apply is.st), (by apply is.st), (by apply is.st), (by apply is.st), trivial⟩
            case hfin =>
              intro vs x hf
              try simp only [World.plus_plus] at hf ⊢
              simp only [List.take_succ_cons, List.take_zero, List.drop_succ_cons, List.drop_zero, putAll, Act.put, List.setIfInBounds_toArray, List.set_cons_succ, List.set_cons_zero]
              simp only [facts, is, Nat.zero_add, Nat.reduceAdd] at hf
              simp only [Nat.zero_add, Nat.reduceAdd, hf]
              clear hf
              go_wp2_with fail
              go_meet
              case rel => exact ⟨rfl, (by repeat (first | exact Ext.refl _ | assumption | apply Ext.plus_ | apply Ext.alloc | apply Ext.drew))⟩
        case rest =>
        obtain ⟨rfl, hEx⟩ := hcut
        have hst := HT.out.1.ext hEx
        have hB3 := HT.out.2.ext hEx
        replace c0 := hEx.cell c0
        replace c1 := hEx.cell c1
        clear hEx HT HR
        clear o0 o1 o2 o3 o4 o5 oF oL oB
        clear p0 p1 p2 p3 p4 p5 pF pL pB
        clear r0 r1 r2 r3 r4 r5 rF rL rB
        have hB1 := hst.b1
        have hB2 := hst.b2
        have p0 := hB1.cell 0 (by simp)
        have p1 := hB1.cell 1 (by simp)
        have p2 := hB1.cell 2 (by simp)
        have p3 := hB1.cell 3 (by simp)
        have p4 := hB1.cell 4 (by simp)
        have p5 := hB1.cell 5 (by simp)
        simp only [List.getElem?_cons_zero, List.getElem?_cons_succ] at p0 p1 p2 p3 p4 p5
        have pF := hB1.free
        have pL := hB1.lt
        have pB := hB1.base
        have r0 := hB2.cell 0 (by simp)
        have r1 := hB2.cell 1 (by simp)
        have r2 := hB2.cell 2 (by simp)
        have r3 := hB2.cell 3 (by simp)
        have r4 := hB2.cell 4 (by simp)
        have r5 := hB2.cell 5 (by simp)
        simp only [List.getElem?_cons_zero, List.getElem?_cons_succ] at r0 r1 r2 r3 r4 r5
        have rF := hB2.free
        have rL := hB2.lt
        have rB := hB2.base
        clear hB1 hB2
        have o0 := hB3.cell 0 (by simp)
        have o1 := hB3.cell 1 (by simp)
        have o2 := hB3.cell 2 (by simp)
        have o3 := hB3.cell 3 (by simp)
        have o4 := hB3.cell 4 (by simp)
        have o5 := hB3.cell 5 (by simp)
        simp only [List.getElem?_cons_zero, List.getElem?_cons_succ] at o0 o1 o2 o3 o4 o5
        have oF := hB3.free
        have oL := hB3.lt
        have oB := hB3.base
        have HT := Lib.hid (And.intro hst hB3)
        have HR := Lib.hid hst.r_
        clear hst hB3
        go_wp2_with fail
        go_roundg (il.length - (q + 1))
        case measure =>
          have := HG.out
          omega
        case rel =>
          obtain ⟨hE, hB1, hB2, hR, hIR⟩ := HT.out.1
          refine ⟨q + 1, ⟨s', g', h', t', e', a'⟩, by omega, rfl, by go_num, Lib.hid HS.out.symm, Lib.hid ⟨?_, ?_, ?_, ?_, ?_⟩⟩
          · repeat' (first | with_reducible assumption | with_reducible exact Ext.refl _ | with_reducible apply Ext.alloc | with_reducible apply Ext.drew | with_reducible apply Ext.drewN | with_reducible apply Ext.plus_ | with_reducible refine Ext.put ?_ (by omega))
          · repeat' (first | with_reducible assumption | ((with_reducible refine Box.fresh ?fb ?fn ?fr); (case fb => first | omega | (simp <;> omega)); (case fn => first | omega | (simp <;> omega)); (case fr => rfl)) | with_reducible apply Box.up | with_reducible apply Box.drew_ | with_reducible apply Box.drewN_ | with_reducible apply Box.plus_ | with_reducible apply Box.put | with_reducible refine Box.off ?_ (by omega))
            all_goals first | rfl | (simp; done)
          · repeat' (first | with_reducible assumption | ((with_reducible refine Box.fresh ?fb ?fn ?fr); (case fb => first | omega | (simp <;> omega)); (case fn => first | omega | (simp <;> omega)); (case fr => rfl)) | with_reducible apply Box.up | with_reducible apply Box.drew_ | with_reducible apply Box.drewN_ | with_reducible apply Box.plus_ | with_reducible apply Box.put | with_reducible refine Box.off ?_ (by omega))
            all_goals first | rfl | (simp; done)
          · repeat' (first | with_reducible assumption | with_reducible refine Row.put ?_ (by omega) | with_reducible refine Row.up_ ?_ (by first | omega | (simp <;> omega)) _ | with_reducible refine Row.plus_ ?_ (by first | omega | (simp <;> omega)) _ | with_reducible apply Row.drew)
          · repeat' (first | with_reducible assumption | with_reducible refine Row.put ?_ (by omega) | with_reducible refine Row.up_ ?_ (by first | omega | (simp <;> omega)) _ | with_reducible refine Row.plus_ ?_ (by first | omega | (simp <;> omega)) _ | with_reducible apply Row.drew)
    · have HT := Lib.hid hst
      clear hst hE hB1 hB2 hR hIR
      go_wp2_with fail
      refine (awake_any _).mono ?_
      rintro ee Z ⟨rfl, hEZ⟩
      go_wp2
      go_ret
      exact ⟨rfl, HT.out.e.trans hEZ⟩
theorem law_rrises (v0 v1 : Value) (w : World) (p0 : ∃ A n c, ∃ l : List Int, v0 = .slice A n c ∧ ArgRow w A n c (l.map (Value.int .i64)) ∧ ∀ x ∈ l, I64 x)
    (p1 : ∃ A n c, ∃ l : List Int, v1 = .slice A n c ∧ ArgRow w A n c (l.map (Value.int .i64)) ∧ ∀ x ∈ l, I64 x) :
    Calls Try.prog 7 #[v0, v1] w fun ee w' => ee = .returned (.bool true) ∧ Ext w w' := by
  obtain ⟨B, k, d, ll, rfl, ⟨hB, hkd, hdm, _⟩, _⟩ := p0
  obtain ⟨M, mk, md, ml, rfl, ⟨hM, hmd, hmm, _⟩, _⟩ := p1
  exact rrises_go B k d ll M mk md ml w hB (by omega) hM (by omega) hmd
end Go.Proofs.Ytidndcigloohoaa
