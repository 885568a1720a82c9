/- Ports: Put and Grant of the reference. -/
import Derived.Test.YtphbmibgnnobcaaPortB
import Derived.Test.YtphbmibgnnobcaaPortO
set_option linter.unusedVariables false
namespace Go.Proofs.Ytphbmibgnnobcaa
open Go.RowKit Go.Rg

/-- What the reference's Put leaves where there is room. -/
def RpPost (w : World) (id cl ic : Int) (l : List Int) (oc : Int) (k : List Int) (bu : Int) (en cg : Bool) (e : Ending) (w' : World) : Prop :=
  ∃ v1 v2, e = .returned (.tuple #[v1, v2, .int .i64 0]) ∧ PR w' v1 id cl ic l oc (k.drop (min bu k.length).toNat) (bu - min bu k.length) en cg ∧ BR w' v2 (k.take (min bu k.length).toNat) ∧ Ext w w'
def isBoxT (N : Nat) (t : TypeId) (cs : List Value) : Value → World → Prop := fun v w => ∃ b, v = .pointer (some ⟨b, 0, none⟩) ∧ BoxT N t cs b w
theorem isBoxT.st2 {N M c : Nat} {t e : TypeId} {cs : List Value} (ht : t ≠ e := by decide) : Stable2 N e c (isBoxT M t cs) := fun _ _ _ hE ⟨b, h1, h2⟩ => by
  split at hE
  · exact ⟨b, h1, h2.big hE ht⟩
  · exact ⟨b, h1, h2.ext hE⟩
def isPR (id cl ic : Int) (l : List Int) (oc : Int) (k : List Int) (bu : Int) (en cg : Bool) : Value → World → Prop := fun v w => PR w v id cl ic l oc k bu en cg
theorem isPR.st (id cl ic : Int) (l : List Int) (oc : Int) (k : List Int) (bu : Int) (en cg : Bool) : Stable (isPR id cl ic l oc k bu en cg) := fun _ _ _ e h => h.lift e
def isBR (l : List Int) : Value → World → Prop := fun v w => BR w v l
theorem isBR.st (l : List Int) : Stable (isBR l) := fun _ _ _ e h => h.lift e
def isFl (id cl ic : Int) (l : List Int) (oc : Int) (k : List Int) (bu : Int) (en cg : Bool) (k2 : List Int) : Value → World → Prop := fun v w => ∃ v1 v2, v = .tuple #[v1, v2] ∧ PR w v1 id cl ic l oc k bu en cg ∧ BR w v2 k2
theorem isFl.st (id cl ic : Int) (l : List Int) (oc : Int) (k : List Int) (bu : Int) (en cg : Bool) (k2 : List Int) : Stable (isFl id cl ic l oc k bu en cg k2) := fun _ _ _ e ⟨v1, v2, h, h1, h2⟩ => ⟨v1, v2, h, h1.lift e, h2.lift e⟩
set_option maxHeartbeats 2000000 in
theorem refPput_no (id cl ic : Int) (A : Option Addr) (n c : Nat) (oc : Int) (B : Option Addr) (m d : Nat) (bu : Int) (en cg : Bool) (V : Option Addr) (vn vc : Nat) (w : World) (hm : m ≤ 140737488355328) (hb2 : 0 ≤ bu) (hb3 : bu ≤ 1000000)
    (hr : prm oc m bu < vn) (hvn : vn ≤ 140737488355328) :
    Calls Try.prog 25 #[pv id cl ic A n c oc B m d bu en cg, .slice V vn vc] w fun e w' => e = .returned (.tuple #[pv 0 0 0 none 0 0 0 none 0 0 0 false false, .slice none 0 0, .int .i64 9]) ∧ Ext w w' := by
  go_enter Try.func25, Try.ntmps25
  go_wp2_with fail
  refine calls_at fun W hW => ?_
  obtain ⟨N, hN⟩ : ∃ N, N = w.heap.size := ⟨_, rfl⟩
  have hB1 : Box N pz (N + 1) W := by
    rw [hW]
    repeat' (first | with_reducible assumption | ((with_reducible refine Box.fresh ?fb ?fn ?fr); (case fb => first | omega | (simp <;> omega)); (case fn => first | omega | (simp <;> omega)); (case fr => rfl)) | with_reducible apply Box.up | with_reducible apply Box.drew_ | with_reducible apply Box.drewN_ | with_reducible apply Box.plus_ | with_reducible apply Box.put | with_reducible refine Box.off ?_ (by omega))
    all_goals first | rfl | (simp; done)
  have hB0 : Box N [.int .i64 id, .int .i64 cl, .int .i64 ic, .slice A n c, .int .i64 oc, .slice B m d, .int .i64 bu, .bool en, .bool cg] N W := by
    rw [hW]
    repeat' (first | with_reducible assumption | ((with_reducible refine Box.fresh ?fb ?fn ?fr); (case fb => first | omega | (simp <;> omega)); (case fn => first | omega | (simp <;> omega)); (case fr => rfl)) | with_reducible apply Box.up | with_reducible apply Box.drew_ | with_reducible apply Box.drewN_ | with_reducible apply Box.plus_ | with_reducible apply Box.put | with_reducible refine Box.off ?_ (by omega))
    all_goals first | rfl | (simp; done)
  have hE : Ext w W := by
    rw [hW]
    repeat' (first | with_reducible assumption | with_reducible exact Ext.refl _ | with_reducible apply Ext.alloc | with_reducible apply Ext.drew | with_reducible apply Ext.drewN | with_reducible apply Ext.plus_ | with_reducible refine Ext.put ?_ (by omega))
  rw [← hN]
  have HN := Lib.hid hN
  clear hW hN
  refine (refProom_any id cl ic A n c oc B m d bu en cg W (by omega) hb2 hb3).mono ?_
  obtain ⟨rm, hrm⟩ : ∃ rm, rm = prm oc m bu := ⟨_, rfl⟩
  rw [← hrm] at hr ⊢
  rintro e X ⟨rfl, hEX⟩
  replace hB0 := hB0.ext hEX
  replace hB1 := hB1.ext hEX
  replace hE := hE.trans hEX
  clear hEX hrm
  have p0 := hB0.cell 0 (by simp)
  have p1 := hB0.cell 1 (by simp)
  have p2 := hB0.cell 2 (by simp)
  have p3 := hB0.cell 3 (by simp)
  have p4 := hB0.cell 4 (by simp)
  have p5 := hB0.cell 5 (by simp)
  have p6 := hB0.cell 6 (by simp)
  have p7 := hB0.cell 7 (by simp)
  have p8 := hB0.cell 8 (by simp)
  simp only [List.getElem?_cons_zero, List.getElem?_cons_succ] at p0 p1 p2 p3 p4 p5 p6 p7 p8
  have pF := hB0.free
  have pL := hB0.lt
  have pB := hB0.base
  have r0 := hB1.cell 0 (by simp)
  have r1 := hB1.cell 1 (by simp)
  have r2 := hB1.cell 2 (by simp)
  have r3 := hB1.cell 3 (by simp)
  have r4 := hB1.cell 4 (by simp)
  have r5 := hB1.cell 5 (by simp)
  have r6 := hB1.cell 6 (by simp)
  have r7 := hB1.cell 7 (by simp)
  have r8 := hB1.cell 8 (by simp)
  simp only [List.getElem?_cons_zero, List.getElem?_cons_succ] at r0 r1 r2 r3 r4 r5 r6 r7 r8
  have rF := hB1.free
  have rL := hB1.lt
  have rB := hB1.base
  have HE := Lib.hid hE
  clear hB0 hB1 hE
  go_wp2
  refine bodyPost_ret (v := (.tuple #[pv 0 0 0 none 0 0 0 none 0 0 0 false false, .slice none 0 0, .int .i64 9])) (by simp [results, Try.results25, go_sem, r0, r1, r2, r3, r4, r5, r6, r7, r8]) rfl ?_
  refine ⟨rfl, ?_⟩
  have hE := HE.out
  have hN := HN.out
  repeat' (first | with_reducible assumption | with_reducible exact Ext.refl _ | with_reducible apply Ext.alloc | with_reducible apply Ext.drew | with_reducible apply Ext.drewN | with_reducible apply Ext.plus_ | with_reducible refine Ext.put ?_ (by omega))
set_option maxHeartbeats 4000000 in
theorem refPput_yes (id cl ic : Int) (A : Option Addr) (n c : Nat) (l : List Int) (oc : Int) (B : Option Addr) (m d : Nat) (k : List Int) (bu : Int) (en cg : Bool) (V : Option Addr) (vn vc : Nat) (vl : List Int) (w : World)
    (hA : RB w A n c l) (hB : RB w B m d k) (hm2 : m + vn ≤ 140737488355328) (hV : RB w V vn vc vl) (hb2 : 0 ≤ bu) (hb3 : bu ≤ 1000000) (hr : (vn : Int) ≤ prm oc m bu) :
    Calls Try.prog 25 #[pv id cl ic A n c oc B m d bu en cg, .slice V vn vc] w (RpPost w id cl ic l oc (k ++ vl) bu en cg) := by
  obtain ⟨i0, hi, hz0, hz1, hz2⟩ := info_parts Try.infoByte
  have HKL := Lib.hid (And.intro hB.len hV.len)
  have HR := Lib.hid (And.intro hA (And.intro hB hV))
  clear hA hB hV
  go_enter Try.func25, Try.ntmps25
  go_wp2_with fail
  refine calls_at fun W hW => ?_
  obtain ⟨N, hN⟩ : ∃ N, N = w.heap.size := ⟨_, rfl⟩
  have hB1 : Box N pz (N + 1) W := by
    rw [hW]
    repeat' (first | with_reducible assumption | ((with_reducible refine Box.fresh ?fb ?fn ?fr); (case fb => first | omega | (simp <;> omega)); (case fn => first | omega | (simp <;> omega)); (case fr => rfl)) | with_reducible apply Box.up | with_reducible apply Box.drew_ | with_reducible apply Box.drewN_ | with_reducible apply Box.plus_ | with_reducible apply Box.put | with_reducible refine Box.off ?_ (by omega))
    all_goals first | rfl | (simp; done)
  have hB0 : Box N [.int .i64 id, .int .i64 cl, .int .i64 ic, .slice A n c, .int .i64 oc, .slice B m d, .int .i64 bu, .bool en, .bool cg] N W := by
    rw [hW]
    repeat' (first | with_reducible assumption | ((with_reducible refine Box.fresh ?fb ?fn ?fr); (case fb => first | omega | (simp <;> omega)); (case fn => first | omega | (simp <;> omega)); (case fr => rfl)) | with_reducible apply Box.up | with_reducible apply Box.drew_ | with_reducible apply Box.drewN_ | with_reducible apply Box.plus_ | with_reducible apply Box.put | with_reducible refine Box.off ?_ (by omega))
    all_goals first | rfl | (simp; done)
  have hE : Ext w W := by
    rw [hW]
    repeat' (first | with_reducible assumption | with_reducible exact Ext.refl _ | with_reducible apply Ext.alloc | with_reducible apply Ext.drew | with_reducible apply Ext.drewN | with_reducible apply Ext.plus_ | with_reducible refine Ext.put ?_ (by omega))
  rw [← hN]
  have HN := Lib.hid hN
  clear hW hN
  refine (refProom_any id cl ic A n c oc B m d bu en cg W (by omega) hb2 hb3).mono ?_
  obtain ⟨rm, hrm⟩ : ∃ rm, rm = prm oc m bu := ⟨_, rfl⟩
  rw [← hrm] at hr ⊢
  rintro e X ⟨rfl, hEX⟩
  replace hB0 := hB0.ext hEX
  replace hB1 := hB1.ext hEX
  replace hE := hE.trans hEX
  clear hEX hrm
  have p0 := hB0.cell 0 (by simp)
  have p1 := hB0.cell 1 (by simp)
  have p2 := hB0.cell 2 (by simp)
  have p3 := hB0.cell 3 (by simp)
  have p4 := hB0.cell 4 (by simp)
  have p5 := hB0.cell 5 (by simp)
  have p6 := hB0.cell 6 (by simp)
  have p7 := hB0.cell 7 (by simp)
  have p8 := hB0.cell 8 (by simp)
  simp only [List.getElem?_cons_zero, List.getElem?_cons_succ] at p0 p1 p2 p3 p4 p5 p6 p7 p8
  have pF := hB0.free
  have pL := hB0.lt
  have pB := hB0.base
  have r0 := hB1.cell 0 (by simp)
  have r1 := hB1.cell 1 (by simp)
  have r2 := hB1.cell 2 (by simp)
  have r3 := hB1.cell 3 (by simp)
  have r4 := hB1.cell 4 (by simp)
  have r5 := hB1.cell 5 (by simp)
  have r6 := hB1.cell 6 (by simp)
  have r7 := hB1.cell 7 (by simp)
  have r8 := hB1.cell 8 (by simp)
  simp only [List.getElem?_cons_zero, List.getElem?_cons_succ] at r0 r1 r2 r3 r4 r5 r6 r7 r8
  have rF := hB1.free
  have rL := hB1.lt
  have rB := hB1.base
  have H := Lib.hid (And.intro hB0 (And.intro hB1 hE))
  clear hB0 hB1 hE
  obtain ⟨k9, hk9⟩ : ∃ k9, k9 = k ++ vl := ⟨_, rfl⟩
  have hk9l : k9.length ≤ 140737488355328 := by
    have h1 := HKL.out.1
    have h2 := HKL.out.2
    rw [hk9, List.length_append]
    omega
  have hNX : N + 2 ≤ X.heap.size := rL
  have hwX : w.heap.size ≤ N + 2 := by
    rw [← HN.out]
    omega
  have P5 := Lib.hid (fun (W : World) (v : Value) (hX : Ext X W) (hO : isOwn0 (N + 2) v W) (ty : TypeId) => app_lit W (N + 2) m v B d k i0 hi hz0 hz1 hz2 hO (HR.out.2.1.lift (H.out.2.2.trans hX)).row (by omega) (by have := hX.size; omega) ty)
  have P7 := Lib.hid (fun (W : World) (v : Value) (hX : Ext X W) (hO : isOwn (N + 2) m (bytes k) v W) (ty : TypeId) => app_big W (N + 2) m vn v V vc k vl i0 hi hz0 hz1 hz2 hO (HR.out.2.2.lift (H.out.2.2.trans hX)).row (by omega) (by have := hX.size; omega) ty)
  rw [← hk9] at P7
  have P8 := Lib.hid (fun (W : World) (A5 : Option Addr) (c5 : Nat) (hX : Ext w W) (hb : RB W A5 k9.length c5 k9) => refFlush_any id cl ic A n c l oc B m d bu en cg A5 k9.length c5 k9 W (HR.out.1.lift hX) hb hk9l hb2 hb3)
  have HK := Lib.hid hk9
  clear hk9
  obtain ⟨kd, hkd⟩ : ∃ x, x = k9.drop (min bu k9.length).toNat := ⟨_, rfl⟩
  obtain ⟨kt, hkt⟩ : ∃ x, x = k9.take (min bu k9.length).toNat := ⟨_, rfl⟩
  obtain ⟨bq, hbq⟩ : ∃ x, x = bu - min bu k9.length := ⟨_, rfl⟩
  have HQ := Lib.hid (And.intro hkd (And.intro hkt hbq))
  clear hkd hkt hbq
  go_wp2_with fail
  clear p0 p1 p2 p3 p4 p5 p6 p7 p8 pF pL pB
  clear r0 r1 r2 r3 r4 r5 r6 r7 r8 rF rL rB
  apply wp_region_bigy 13 7 (N + 2) 5 [0, 1, 0, 0, 0, 1, 0, 2, 2, 2, 2, 2, 0] (fun W => Box N [.int .i64 id, .int .i64 cl, .int .i64 ic, .slice A n c, .int .i64 oc, .slice B m d, .int .i64 bu, .bool en, .bool cg] N W ∧ Ext w W ∧ N + 2 ≤ W.heap.size) [is (pv id cl ic A n c oc B m d bu en cg), isOwn0 (N + 2), is _, is _, is (.slice B m d), isOwn (N + 2) m (bytes k), is _, isOwn (N + 2) k9.length (bytes k9), isFl id cl ic l oc kd bq en cg kt, isFl id cl ic l oc kd bq en cg kt, isPR id cl ic l oc kd bq en cg, isBR kt, isBoxT (N + 2) 30 pz] 11 _ (by kernel_rfl) (by kernel_rfl) (by kernel_rfl) rfl rfl (by decide) (fun _ _ _ _ h => h)
  case hS =>
    intro W hE
    exact ⟨hE.box H.out.1 (by omega), hE.ext H.out.2.2 hwX, Nat.le_trans hNX hE.size⟩
  case hyo =>
    intro vs W hS hd
    simp only [List.take_succ_cons, List.take_zero, putAll, Act.put, List.setIfInBounds_toArray, List.set_cons_succ, List.set_cons_zero, Nat.zero_add, Nat.reduceAdd]
    simp [depFactsC, clsOf, is, dataE] at hd
    (obtain ⟨v1, v2, e, _, hb⟩ := hd; rw [e]; refine ⟨v2, rfl, fun w2 => rfl, fun T hT => ?_⟩; injection hT with hT; subst hT; exact hb)
  case hops =>
    simp only [List.take_succ_cons, List.take_zero]
    refine ⟨?_, ?_, ?_, ?_, ?_, ?_, ?_, ?_, ?_, ?_, ?_, ?_, ?_, trivial⟩
    all_goals
      intro vs W hS hX hd
      have hxb := hS.1
      have hxs := hS.2.1
      have hss := hS.2.2
      clear hS
      simp only [putAll, Act.put, List.setIfInBounds_toArray, List.set_cons_succ, List.set_cons_zero, Nat.zero_add, Nat.reduceAdd]
      simp [depFactsC, clsOf, is, isRow, isRowN, isBox, dataE] at hd
      simp [clsOf] at hX
      simp only [Region.wanted, if_true, Nat.reduceEqDiff, if_false, reduceIte, Nat.reduceAdd, Nat.zero_ne_one, Nat.one_ne_zero, Nat.zero_add]
      try simp [yielded, hd]
    refine Lock.out ?_
    rotate_left 1
    refine Lock.out ?_
    rotate_left 3
    refine Lock.out ?_
    rotate_left 1
    refine Lock.out ?_
    rotate_left 2
    refine Lock.out ?_
    rotate_left 1
    refine Lock.out ?_
    rotate_left 1
    refine Lock.out ?_
    rotate_left 1
    refine Lock.out ?_
    rotate_left 1
    refine Lock.out ?_
    rotate_left 1
    refine Lock.out ?_
    rotate_left 1
    all_goals
      try (
      with_reducible show comes _ _ _ _ _
      simp only [comes]
      try simp [yielded, hd, comes]
      go_simp
      try go_bits
      first
        | exact ⟨Ext.refl _, rfl⟩
        | exact rfl
        | exact ⟨(Ext.refl _).alloc _, _, rfl, Cells.new _ _ _ _ rfl⟩
      )
    · refine ⟨?_, trivial⟩
      (have c0 := hxb.cell 0 (by simp); have c1 := hxb.cell 1 (by simp); have c2 := hxb.cell 2 (by simp); have c3 := hxb.cell 3 (by simp); have c4 := hxb.cell 4 (by simp); have c5 := hxb.cell 5 (by simp); have c6 := hxb.cell 6 (by simp); have c7 := hxb.cell 7 (by simp); have c8 := hxb.cell 8 (by simp); simp only [List.getElem?_cons_zero, List.getElem?_cons_succ] at c0 c1 c2 c3 c4 c5 c6 c7 c8; simp only [comes]; go_simp; first | exact ⟨Ext.refl _, rfl⟩ | exact Ext.refl _)
    · refine ⟨?_, trivial⟩
      (simp only [comes]; go_simp; exact ⟨(Ext.refl _).alloc _, _, rfl, own_empty W (N + 2) _ hss⟩)
    · refine ⟨?_, trivial⟩
      (have c5 := hxb.cell 5 (by simp); simp only [List.getElem?_cons_zero, List.getElem?_cons_succ] at c5; simp only [comes]; go_simp; first | exact ⟨Ext.refl _, rfl⟩ | exact Ext.refl _)
    · refine ⟨?_, trivial⟩
      exact comes_app (.tmp 17) (.tmp 20) 26 rfl (vs 1) (.slice B m d) rfl rfl (P5.out W (vs 1) hX hd.1 _)
    · refine ⟨?_, trivial⟩
      exact comes_app (.tmp 21) (.tmp 22) 26 rfl (vs 5) (.slice V vn vc) rfl rfl (P7.out W (vs 5) hX hd.1 _)
    · refine ⟨?_, trivial⟩
      (have h5 := hd.2; obtain ⟨A5, c5, e, hb1, hb2⟩ := own_form h5; rw [e] at h5 ⊢; simp only [comes]; go_simp; go_at_call 40; refine (P8.out _ A5 c5 hxs (RB.of_own h5)).mono ?_; rintro e w' ⟨v1, v2, rfl, hq1, hq2, hE⟩; rw [← HQ.out.1, ← HQ.out.2.2] at hq1; rw [← HQ.out.2.1] at hq2; exact ⟨_, rfl, hE, v1, v2, rfl, hq1, hq2⟩)
    · refine ⟨?_, trivial⟩
      (simp only [comes]; go_simp; first | exact Ext.refl _ | exact ⟨Ext.refl _, hd⟩)
    · refine ⟨?_, trivial⟩
      (obtain ⟨v1, v2, e, hq, _⟩ := hd; rw [e]; simp only [comes]; go_simp; exact ⟨Ext.refl _, hq⟩)
    · refine ⟨?_, trivial⟩
      (obtain ⟨v1, v2, e, _, hq⟩ := hd; rw [e]; simp only [comes]; go_simp; exact ⟨Ext.refl _, hq⟩)
    · refine ⟨?_, trivial⟩
      (simp only [comes]; go_simp; exact ⟨(Ext.refl _).alloc _, _, rfl, BoxT.new _ _ _ _ hss rfl⟩)
  case hst => exact ⟨(by first | exact Stable2.is _ | exact Stable2.ext (by apply is.st) (by decide) | exact is.st2), (by first | exact Stable2.is _ | exact Stable2.ext (by apply isOwn0.st) (by decide) | exact isOwn0.st2), (by first | exact Stable2.is _ | exact Stable2.ext (by apply is.st) (by decide) | exact is.st2), (by first | exact Stable2.is _ | exact Stable2.ext (by apply is.st) (by decide) | exact is.st2), (by first | exact Stable2.is _ | exact Stable2.ext (by apply is.st) (by decide) | exact is.st2), (by first | exact Stable2.is _ | exact Stable2.ext (by apply isOwn.st) (by decide) | exact isOwn.st2), (by first | exact Stable2.is _ | exact Stable2.ext (by apply is.st) (by decide) | exact is.st2), (by first | exact Stable2.is _ | exact Stable2.ext (by apply isOwn.st) (by decide) | exact isOwn.st2), (by first | exact Stable2.is _ | exact Stable2.ext (by apply isFl.st) (by decide) | exact isFl.st2), (by first | exact Stable2.is _ | exact Stable2.ext (by apply isFl.st) (by decide) | exact isFl.st2), (by first | exact Stable2.is _ | exact Stable2.ext (by apply isPR.st) (by decide) | exact isPR.st2), (by first | exact Stable2.is _ | exact Stable2.ext (by apply isBR.st) (by decide) | exact isBR.st2), (by first | exact Stable2.is _ | exact Stable2.ext (by apply isBoxT.st) (by decide) | exact isBoxT.st2), trivial⟩
  case hfin =>
    intro vs W hE hS hf
    simp only [List.take_succ_cons, List.take_zero, List.drop_succ_cons, List.drop_zero, putAll, Act.put, List.setIfInBounds_toArray, List.set_cons_succ, List.set_cons_zero]
    simp [factsC, clsOf, is] at hf
    simp only [Nat.zero_add, Nat.reduceAdd, hf]
    obtain ⟨h0, h2, h3, h4, h6, h7, h8, h9, h10, h11, ⟨b8, h12, hT⟩⟩ := hf
    rw [h12]
    obtain ⟨A6, n6, c6, B6, m6, d6, h10e, ha6, hb6⟩ := h10
    rw [h10e]
    obtain ⟨-, hB1, -⟩ := H.out
    have hBZ := hE.box hB1 (by omega)
    have hBb := hT.box
    have hbb := hBb.base
    have hEW := hS.2.1
    have hbN : N + 2 ≤ b8 := hbb
    clear h0 h2 h3 h4 h6 h7 h8 h9 h10e h12 hT hbb hB1
    have p0 := hBb.cell 0 (by simp)
    have p1 := hBb.cell 1 (by simp)
    have p2 := hBb.cell 2 (by simp)
    have p3 := hBb.cell 3 (by simp)
    have p4 := hBb.cell 4 (by simp)
    have p5 := hBb.cell 5 (by simp)
    have p6 := hBb.cell 6 (by simp)
    have p7 := hBb.cell 7 (by simp)
    have p8 := hBb.cell 8 (by simp)
    simp only [List.getElem?_cons_zero, List.getElem?_cons_succ] at p0 p1 p2 p3 p4 p5 p6 p7 p8
    have pF := hBb.free
    have pL := hBb.lt
    have pB := hBb.base
    have r0 := hBZ.cell 0 (by simp)
    have r1 := hBZ.cell 1 (by simp)
    have r2 := hBZ.cell 2 (by simp)
    have r3 := hBZ.cell 3 (by simp)
    have r4 := hBZ.cell 4 (by simp)
    have r5 := hBZ.cell 5 (by simp)
    have r6 := hBZ.cell 6 (by simp)
    have r7 := hBZ.cell 7 (by simp)
    have r8 := hBZ.cell 8 (by simp)
    simp only [List.getElem?_cons_zero, List.getElem?_cons_succ] at r0 r1 r2 r3 r4 r5 r6 r7 r8
    have rF := hBZ.free
    have rL := hBZ.lt
    have rB := hBZ.base
    obtain ⟨v11, hv11⟩ : ∃ v, v = vs 11 := ⟨_, rfl⟩
    rw [← hv11] at h11 ⊢
    clear hv11
    obtain ⟨A7, n7, c7, rfl, h11⟩ := h11
    have H2 := Lib.hid (And.intro hBb (And.intro hBZ (And.intro hEW (And.intro ha6 (And.intro hb6 h11)))))
    clear hBb hBZ hEW ha6 hb6 h11 hS hE H P5 P7 P8
    go_wp2_with (with_reducible show wpList _ _ _ (⟨some 27, _, _, _, _, _⟩ :: _) _ _; refine Lock.out ?_)
    refine ⟨?_, trivial⟩
    refine wl_at fun U hU => ?_
    obtain ⟨hBb, hBZ, hEW, ha6, hb6, h11⟩ := H2.out
    have hN := HN.out
    replace hBb : Box (N + 2) [.int .i64 id, .int .i64 cl, .int .i64 ic, .slice A6 n6 c6, .int .i64 oc, .slice B6 m6 d6, .int .i64 bq, .bool en, .bool cg] b8 U := by
      rw [hU]
      repeat' (first | with_reducible assumption | ((with_reducible refine Box.fresh ?fb ?fn ?fr); (case fb => first | omega | (simp <;> omega)); (case fn => first | omega | (simp <;> omega)); (case fr => rfl)) | with_reducible apply Box.up | with_reducible apply Box.drew_ | with_reducible apply Box.drewN_ | with_reducible apply Box.plus_ | with_reducible apply Box.put | with_reducible refine Box.off ?_ (by omega))
      all_goals first | rfl | (simp; done)
    replace hBZ : Box N pz (N + 1) U := by
      rw [hU]
      repeat' (first | with_reducible assumption | ((with_reducible refine Box.fresh ?fb ?fn ?fr); (case fb => first | omega | (simp <;> omega)); (case fn => first | omega | (simp <;> omega)); (case fr => rfl)) | with_reducible apply Box.up | with_reducible apply Box.drew_ | with_reducible apply Box.drewN_ | with_reducible apply Box.plus_ | with_reducible apply Box.put | with_reducible refine Box.off ?_ (by omega))
      all_goals first | rfl | (simp; done)
    replace hEW : Ext w U := by
      rw [hU]
      repeat' (first | with_reducible assumption | with_reducible exact Ext.refl _ | with_reducible apply Ext.alloc | with_reducible apply Ext.drew | with_reducible apply Ext.drewN | with_reducible apply Ext.plus_ | with_reducible refine Ext.put ?_ (by omega))
    have hU8 : U8 W U := by
      rw [hU]
      repeat' (first | with_reducible exact U8.refl _ | with_reducible assumption | with_reducible apply U8.up | with_reducible apply U8.drew | ((with_reducible refine U8.putE ?_ ?_); rotate_left; (refine ⟨_, by assumption, ?_⟩); intro _ h; cases h) | ((with_reducible refine U8.new ?_ ?_); rotate_left; first | omega | (simp <;> omega)))
    replace ha6 := ha6.u8 hU8
    replace hb6 := hb6.u8 hU8
    replace h11 := h11.u8 hU8
    clear hU8 hU hN H2
    clear p0 p1 p2 p3 p4 p5 p6 p7 p8 pF pL pB
    clear r0 r1 r2 r3 r4 r5 r6 r7 r8 rF rL rB
    have p0 := hBb.cell 0 (by simp)
    have p1 := hBb.cell 1 (by simp)
    have p2 := hBb.cell 2 (by simp)
    have p3 := hBb.cell 3 (by simp)
    have p4 := hBb.cell 4 (by simp)
    have p5 := hBb.cell 5 (by simp)
    have p6 := hBb.cell 6 (by simp)
    have p7 := hBb.cell 7 (by simp)
    have p8 := hBb.cell 8 (by simp)
    simp only [List.getElem?_cons_zero, List.getElem?_cons_succ] at p0 p1 p2 p3 p4 p5 p6 p7 p8
    have pF := hBb.free
    have pL := hBb.lt
    have pB := hBb.base
    have r0 := hBZ.cell 0 (by simp)
    have r1 := hBZ.cell 1 (by simp)
    have r2 := hBZ.cell 2 (by simp)
    have r3 := hBZ.cell 3 (by simp)
    have r4 := hBZ.cell 4 (by simp)
    have r5 := hBZ.cell 5 (by simp)
    have r6 := hBZ.cell 6 (by simp)
    have r7 := hBZ.cell 7 (by simp)
    have r8 := hBZ.cell 8 (by simp)
    simp only [List.getElem?_cons_zero, List.getElem?_cons_succ] at r0 r1 r2 r3 r4 r5 r6 r7 r8
    have rF := hBZ.free
    have rL := hBZ.lt
    have rB := hBZ.base
    have H3 := Lib.hid (And.intro hEW (And.intro ha6 (And.intro hb6 h11)))
    clear hBb hBZ hEW ha6 hb6 h11
    go_wp2
    refine bodyPost_ret (v := (.tuple #[pv id cl ic A6 n6 c6 oc B6 m6 d6 bq en cg, .slice A7 n7 c7, .int .i64 0])) (by simp [results, Try.results25, go_sem, r0, r1, r2, r3, r4, r5, r6, r7, r8]) rfl ?_
    obtain ⟨hEW, ha6, hb6, h11⟩ := H3.out
    have hN := HN.out
    unfold RpPost
    rw [← HK.out, ← HQ.out.1, ← HQ.out.2.1, ← HQ.out.2.2]
    refine ⟨_, _, rfl, ⟨A6, n6, c6, B6, m6, d6, rfl, ha6.u8 ?_, hb6.u8 ?_⟩, ⟨A7, n7, c7, rfl, h11.u8 ?_⟩, ?_⟩
    · repeat' (first | with_reducible exact U8.refl _ | with_reducible assumption | with_reducible apply U8.up | with_reducible apply U8.drew | ((with_reducible refine U8.putE ?_ ?_); rotate_left; (refine ⟨_, by assumption, ?_⟩); intro _ h; cases h) | ((with_reducible refine U8.new ?_ ?_); rotate_left; first | omega | (simp <;> omega)))
    · repeat' (first | with_reducible exact U8.refl _ | with_reducible assumption | with_reducible apply U8.up | with_reducible apply U8.drew | ((with_reducible refine U8.putE ?_ ?_); rotate_left; (refine ⟨_, by assumption, ?_⟩); intro _ h; cases h) | ((with_reducible refine U8.new ?_ ?_); rotate_left; first | omega | (simp <;> omega)))
    · repeat' (first | with_reducible exact U8.refl _ | with_reducible assumption | with_reducible apply U8.up | with_reducible apply U8.drew | ((with_reducible refine U8.putE ?_ ?_); rotate_left; (refine ⟨_, by assumption, ?_⟩); intro _ h; cases h) | ((with_reducible refine U8.new ?_ ?_); rotate_left; first | omega | (simp <;> omega)))
    · repeat' (first | with_reducible assumption | with_reducible exact Ext.refl _ | with_reducible apply Ext.alloc | with_reducible apply Ext.drew | with_reducible apply Ext.drewN | with_reducible apply Ext.plus_ | with_reducible refine Ext.put ?_ (by omega))
theorem refAdd_two (most x y : Int) (b : Nat) (w : World) (hb : Cells w b [.int .i64 x, .int .i64 y]) (hm : most ≤ 9223372036854775807) :
    Calls Try.prog 41 #[.int .i64 most, .slice (some ⟨b, 0, none⟩) 2 2] w fun e w' => e = .returned (.int .i64 (addTo most [x, y] 2)) ∧ w = w' :=
  refAdd_any most _ 2 2 [x, y] w ⟨rfl, fun _ => ⟨b, 0, rfl, hb.1, fun j u hu => by simpa using hb.2 j u hu⟩⟩ hm (by decide)
set_option maxHeartbeats 4000000 in
theorem refGrant_any (id cl ic : Int) (A : Option Addr) (n c : Nat) (l : List Int) (oc : Int) (B : Option Addr) (m d : Nat) (k : List Int) (bu : Int) (en cg : Bool) (g : Int) (w : World)
    (hA : RB w A n c l) (hB : RB w B m d k) (hm : m ≤ 140737488355328) :
    Calls Try.prog 26 #[pv id cl ic A n c oc B m d bu en cg, .int .i64 g] w (RfPost w id cl ic l oc k (addTo 1000000 [bu, g] 2) en cg) := by
  go_enter Try.func26, Try.ntmps26
  go_wp2_with fail
  refine calls_at fun W hW => ?_
  obtain ⟨N, hN⟩ : ∃ N, N = w.heap.size := ⟨_, rfl⟩
  have hB1 : Box N pz (N + 1) W := by
    rw [hW]
    repeat' (first | with_reducible assumption | ((with_reducible refine Box.fresh ?fb ?fn ?fr); (case fb => first | omega | (simp <;> omega)); (case fn => first | omega | (simp <;> omega)); (case fr => rfl)) | with_reducible apply Box.up | with_reducible apply Box.drew_ | with_reducible apply Box.drewN_ | with_reducible apply Box.plus_ | with_reducible apply Box.put | with_reducible refine Box.off ?_ (by omega))
    all_goals first | rfl | (simp; done)
  have hB0 : Box N [.int .i64 id, .int .i64 cl, .int .i64 ic, .slice A n c, .int .i64 oc, .slice B m d, .int .i64 bu, .bool en, .bool cg] N W := by
    rw [hW]
    repeat' (first | with_reducible assumption | ((with_reducible refine Box.fresh ?fb ?fn ?fr); (case fb => first | omega | (simp <;> omega)); (case fn => first | omega | (simp <;> omega)); (case fr => rfl)) | with_reducible apply Box.up | with_reducible apply Box.drew_ | with_reducible apply Box.drewN_ | with_reducible apply Box.plus_ | with_reducible apply Box.put | with_reducible refine Box.off ?_ (by omega))
    all_goals first | rfl | (simp; done)
  have hC : Cells W (N + 2) [.int .i64 bu, .int .i64 g] := by
    rw [hW, hN]
    exact Cells.fresh (by simp) rfl
  have hE : Ext w W := by
    rw [hW]
    repeat' (first | with_reducible assumption | with_reducible exact Ext.refl _ | with_reducible apply Ext.alloc | with_reducible apply Ext.drew | with_reducible apply Ext.drewN | with_reducible apply Ext.plus_ | with_reducible refine Ext.put ?_ (by omega))
  rw [← hN]
  have HN := Lib.hid hN
  clear hW hN
  refine (refAdd_two 1000000 bu g _ W hC (by decide)).mono ?_
  have hb1 := addTo_bd 1000000 [bu, g] 2
  obtain ⟨b1, hb⟩ : ∃ b, b = addTo 1000000 [bu, g] 2 := ⟨_, rfl⟩
  rw [← hb] at hb1 ⊢
  have hb2 : 0 ≤ b1 := hb1.1
  have hb3 : b1 ≤ 1000000 := by
    have := hb1.2
    omega
  have HBQ := Lib.hid hb
  clear hb1 hb hC
  rintro e Z ⟨rfl, rfl⟩
  have p0 := hB0.cell 0 (by simp)
  have p1 := hB0.cell 1 (by simp)
  have p2 := hB0.cell 2 (by simp)
  have p3 := hB0.cell 3 (by simp)
  have p4 := hB0.cell 4 (by simp)
  have p5 := hB0.cell 5 (by simp)
  have p6 := hB0.cell 6 (by simp)
  have p7 := hB0.cell 7 (by simp)
  have p8 := hB0.cell 8 (by simp)
  simp only [List.getElem?_cons_zero, List.getElem?_cons_succ] at p0 p1 p2 p3 p4 p5 p6 p7 p8
  have pF := hB0.free
  have pL := hB0.lt
  have pB := hB0.base
  have r0 := hB1.cell 0 (by simp)
  have r1 := hB1.cell 1 (by simp)
  have r2 := hB1.cell 2 (by simp)
  have r3 := hB1.cell 3 (by simp)
  have r4 := hB1.cell 4 (by simp)
  have r5 := hB1.cell 5 (by simp)
  have r6 := hB1.cell 6 (by simp)
  have r7 := hB1.cell 7 (by simp)
  have r8 := hB1.cell 8 (by simp)
  simp only [List.getElem?_cons_zero, List.getElem?_cons_succ] at r0 r1 r2 r3 r4 r5 r6 r7 r8
  have rF := hB1.free
  have rL := hB1.lt
  have rB := hB1.base
  have H := Lib.hid (And.intro hB0 (And.intro hB1 hE))
  clear hB0 hB1 hE
  go_wp2_with fail
  refine calls_at fun Y hY => ?_
  obtain ⟨hB0, hB1, hE⟩ := H.out
  have hN := HN.out
  have hU : U8 W Y := by
    rw [hY]
    repeat' (first | with_reducible exact U8.refl _ | with_reducible assumption | with_reducible apply U8.up | with_reducible apply U8.drew | ((with_reducible refine U8.putE ?_ ?_); rotate_left; (refine ⟨_, by assumption, ?_⟩); intro _ h; cases h) | ((with_reducible refine U8.new ?_ ?_); rotate_left; first | omega | (simp <;> omega)))
  have hEY : Ext w Y := by
    rw [hY]
    repeat' (first | with_reducible assumption | with_reducible exact Ext.refl _ | with_reducible apply Ext.alloc | with_reducible apply Ext.drew | with_reducible apply Ext.drewN | with_reducible apply Ext.plus_ | with_reducible refine Ext.put ?_ (by omega))
  replace hB1 : Box N pz (N + 1) Y := by
    rw [hY]
    repeat' (first | with_reducible assumption | ((with_reducible refine Box.fresh ?fb ?fn ?fr); (case fb => first | omega | (simp <;> omega)); (case fn => first | omega | (simp <;> omega)); (case fr => rfl)) | with_reducible apply Box.up | with_reducible apply Box.drew_ | with_reducible apply Box.drewN_ | with_reducible apply Box.plus_ | with_reducible apply Box.put | with_reducible refine Box.off ?_ (by omega))
    all_goals first | rfl | (simp; done)
  have hA1 := (hA.lift hE).u8 hU
  have hV1 := (hB.lift hE).u8 hU
  clear hY hE hN H hB0 hU
  refine (refFlush_any id cl ic A n c l oc B m d b1 en cg B m d k Y hA1 hV1 hm hb2 hb3).mono ?_
  rintro e T ⟨v1, v2, rfl, ⟨A6, n6, c6, B6, m6, d6, rfl, h1, h2⟩, ⟨A7, n7, c7, rfl, h3⟩, hET⟩
  obtain ⟨bq, hbq⟩ : ∃ x, x = b1 - min b1 k.length := ⟨_, rfl⟩
  rw [← hbq]
  clear p0 p1 p2 p3 p4 p5 p6 p7 p8 pF pL pB
  clear r0 r1 r2 r3 r4 r5 r6 r7 r8 rF rL rB
  replace hB1 := hB1.ext hET
  have r0 := hB1.cell 0 (by simp)
  have r1 := hB1.cell 1 (by simp)
  have r2 := hB1.cell 2 (by simp)
  have r3 := hB1.cell 3 (by simp)
  have r4 := hB1.cell 4 (by simp)
  have r5 := hB1.cell 5 (by simp)
  have r6 := hB1.cell 6 (by simp)
  have r7 := hB1.cell 7 (by simp)
  have r8 := hB1.cell 8 (by simp)
  simp only [List.getElem?_cons_zero, List.getElem?_cons_succ] at r0 r1 r2 r3 r4 r5 r6 r7 r8
  have rF := hB1.free
  have rL := hB1.lt
  have rB := hB1.base
  have H2 := Lib.hid (And.intro (hEY.trans hET) (And.intro h1 (And.intro h2 (And.intro h3 hbq))))
  clear hEY hET h1 h2 h3 hbq hB1 hA1 hV1
  go_wp2
  refine bodyPost_ret (v := (.tuple #[pv id cl ic A6 n6 c6 oc B6 m6 d6 bq en cg, .slice A7 n7 c7])) (by simp [results, Try.results26, go_sem, r0, r1, r2, r3, r4, r5, r6, r7, r8]) rfl ?_
  obtain ⟨hE, h1, h2, h3, hbq⟩ := H2.out
  have hN := HN.out
  unfold RfPost
  rw [← HBQ.out, ← hbq]
  refine ⟨_, _, rfl, ⟨A6, n6, c6, B6, m6, d6, rfl, h1.u8 ?_, h2.u8 ?_⟩, ⟨A7, n7, c7, rfl, h3.u8 ?_⟩, ?_⟩
  · repeat' (first | with_reducible exact U8.refl _ | with_reducible assumption | with_reducible apply U8.up | with_reducible apply U8.drew | ((with_reducible refine U8.putE ?_ ?_); rotate_left; (refine ⟨_, by assumption, ?_⟩); intro _ h; cases h) | ((with_reducible refine U8.new ?_ ?_); rotate_left; first | omega | (simp <;> omega)))
  · repeat' (first | with_reducible exact U8.refl _ | with_reducible assumption | with_reducible apply U8.up | with_reducible apply U8.drew | ((with_reducible refine U8.putE ?_ ?_); rotate_left; (refine ⟨_, by assumption, ?_⟩); intro _ h; cases h) | ((with_reducible refine U8.new ?_ ?_); rotate_left; first | omega | (simp <;> omega)))
  · repeat' (first | with_reducible exact U8.refl _ | with_reducible assumption | with_reducible apply U8.up | with_reducible apply U8.drew | ((with_reducible refine U8.putE ?_ ?_); rotate_left; (refine ⟨_, by assumption, ?_⟩); intro _ h; cases h) | ((with_reducible refine U8.new ?_ ?_); rotate_left; first | omega | (simp <;> omega)))
  · repeat' (first | with_reducible assumption | with_reducible exact Ext.refl _ | with_reducible apply Ext.alloc | with_reducible apply Ext.drew | with_reducible apply Ext.drewN | with_reducible apply Ext.plus_ | with_reducible refine Ext.put ?_ (by omega))
end Go.Proofs.Ytphbmibgnnobcaa
