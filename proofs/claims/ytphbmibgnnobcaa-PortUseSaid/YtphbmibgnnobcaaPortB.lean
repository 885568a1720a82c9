/- Ports: flush of the reference. -/
import Derived.Test.YtphbmibgnnobcaaPortA
set_option linter.unusedVariables false
namespace Go.Proofs.Ytphbmibgnnobcaa
open Go.RowKit Go.Rg

/-- Bytes that can be read. -/
def BR (w : World) (v : Value) (l : List Int) : Prop := ∃ A n c, v = .slice A n c ∧ RB w A n c l
theorem BR.u8 {w W : World} {v : Value} {l : List Int} (h : BR w v l) (e : U8 w W) : BR W v l := by
  obtain ⟨A, n, c, hv, h1⟩ := h
  exact ⟨A, n, c, hv, h1.u8 e⟩
theorem BR.lift {w W : World} {v : Value} {l : List Int} (h : BR w v l) (e : Ext w W) : BR W v l := h.u8 (U8.of_ext e)
theorem BF.br {N : Nat} {w : World} {v : Value} {l : List Int} (h : BF N w v l) : BR w v l := by
  obtain ⟨A, n, c, hv, h1, _⟩ := h
  exact ⟨A, n, c, hv, h1⟩
/-- What flush leaves: the bytes that wait are k. -/
def RfPost (w : World) (id cl ic : Int) (l : List Int) (oc : Int) (k : List Int) (bu : Int) (en cg : Bool) (e : Ending) (w' : World) : Prop :=
  ∃ v1 v2, e = .returned (.tuple #[v1, v2]) ∧ PR w' v1 id cl ic l oc (k.drop (min bu k.length).toNat) (bu - min bu k.length) en cg ∧ BR w' v2 (k.take (min bu k.length).toNat) ∧ Ext w w'
set_option maxHeartbeats 4000000 in
theorem refFlush_any (id cl ic : Int) (A : Option Addr) (n c : Nat) (l : List Int) (oc : Int) (B : Option Addr) (m d : Nat) (bu : Int) (en cg : Bool) (V : Option Addr) (vn vc : Nat) (b : List Int) (w : World)
    (hA : RB w A n c l) (hV : RB w V vn vc b) (hv : vn ≤ 140737488355328) (hb2 : 0 ≤ bu) (hb3 : bu ≤ 1000000) :
    Calls Try.prog 40 #[pv id cl ic A n c oc B m d bu en cg, .slice V vn vc] w (RfPost w id cl ic l oc b bu en cg) := by
  obtain ⟨i0, hi, hz0, hz1, hz2⟩ := info_parts Try.infoByte
  have hbl := hV.len
  have hvm := hV.most
  have hvnil := hV.nil
  have hvle := hV.le
  obtain ⟨q, hbq⟩ := Int.eq_ofNat_of_zero_le hb2
  subst hbq
  by_cases hq : (q : Int) ≤ (vn : Int)
  · have hqn : q ≤ vn := by omega
    have HM := Lib.hid (show min (q : Int) (b.length : Int) = ((q : Nat) : Int) by omega)
    clear hbl
    have hqc0 : (0 : Int) ≤ (q : Int) := by omega
    have hqc1 : (q : Int) ≤ (vc : Int) := by omega
    have hqn1 : (q : Int) ≤ (vn : Int) := by omega
    go_enter Try.func40, Try.ntmps40
    go_wp2_with fail
    refine wp_at fun Y hY => ?_
    obtain ⟨N, hN⟩ : ∃ N, N = w.heap.size := ⟨_, rfl⟩
    have hB1 : Box N [.int .i64 0, .int .i64 0, .int .i64 0, .slice none 0 0, .int .i64 0, .slice none 0 0, .int .i64 0, .bool false, .bool false] (N + 1) Y := by
      rw [hY]
      repeat' (first | with_reducible assumption | ((with_reducible refine Box.fresh ?fb ?fn ?fr); (case fb => first | omega | (simp <;> omega)); (case fn => first | omega | (simp <;> omega)); (case fr => rfl)) | with_reducible apply Box.up | with_reducible apply Box.drew_ | with_reducible apply Box.drewN_ | with_reducible apply Box.plus_ | with_reducible apply Box.put | with_reducible refine Box.off ?_ (by omega))
      all_goals first | rfl | (simp; done)
    have hB0 : Box N [.int .i64 id, .int .i64 cl, .int .i64 ic, .slice A n c, .int .i64 oc, .slice B m d, .int .i64 (0), .bool en, .bool cg] N Y := by
      rw [hY]
      repeat' (first | with_reducible assumption | ((with_reducible refine Box.fresh ?fb ?fn ?fr); (case fb => first | omega | (simp <;> omega)); (case fn => first | omega | (simp <;> omega)); (case fr => rfl)) | with_reducible apply Box.up | with_reducible apply Box.drew_ | with_reducible apply Box.drewN_ | with_reducible apply Box.plus_ | with_reducible apply Box.put | with_reducible refine Box.off ?_ (by omega))
      all_goals first | rfl | (simp; done)
    have hE : Ext w Y := by
      rw [hY]
      repeat' (first | with_reducible assumption | with_reducible exact Ext.refl _ | with_reducible apply Ext.alloc | with_reducible apply Ext.drew | with_reducible apply Ext.drewN | with_reducible apply Ext.plus_ | with_reducible refine Ext.put ?_ (by omega))
    rw [← hN]
    have HN := Lib.hid hN
    clear hY hN
    have hA1 := hA.lift hE
    have hr0 := (hV.lift hE).row.take q hqn
    have hr1 := (hV.lift hE).row.from_ hqn hV.le
    try simp only [Nat.sub_zero, Nat.sub_self] at hr1
    rw [show (bytes b).take q = bytes (b.take q) by simp] at hr0
    rw [show (bytes b).drop q = bytes (b.drop q) by simp] at hr1
    obtain ⟨l1, hl1⟩ : ∃ l1, l1 = b.take q := ⟨_, rfl⟩
    obtain ⟨l2, hl2⟩ : ∃ l2, l2 = b.drop q := ⟨_, rfl⟩
    rw [← hl1] at hr0
    rw [← hl2] at hr1
    have HLL := Lib.hid (And.intro hl1 hl2)
    clear hl1 hl2
    have HAPP1 := Lib.hid (fun (W : World) (v : Value) (hX : Ext Y W) (hO : isOwn0 (N + 2) v W) (ty : TypeId) => app_lit W (N + 2) q v V vc l1 i0 hi hz0 hz1 hz2 hO (hr0.lift hX) (by omega) (by have := hX.size; have := hB1.lt; omega) ty)
    have HAPP2 := Lib.hid (fun (W : World) (v : Value) (hX : Ext Y W) (hO : isOwn0 (N + 2) v W) (ty : TypeId) => app_lit W (N + 2) (vn - q) v (fromAddr V vc q) (vc - q) l2 i0 hi hz0 hz1 hz2 hO (hr1.lift hX) (by omega) (by have := hX.size; have := hB1.lt; omega) ty)
    have hNY : N + 2 ≤ Y.heap.size := hB1.lt
    have p0 := hB0.cell 0 (by simp)
    have p1 := hB0.cell 1 (by simp)
    have p2 := hB0.cell 2 (by simp)
    have p3 := hB0.cell 3 (by simp)
    have p4 := hB0.cell 4 (by simp)
    have p5 := hB0.cell 5 (by simp)
    have p6 := hB0.cell 6 (by simp)
    have p7 := hB0.cell 7 (by simp)
    have p8 := hB0.cell 8 (by simp)
    simp only [List.getElem?_cons_zero, List.getElem?_cons_succ] at p0 p1 p2 p3 p4 p5 p6 p7 p8
    have pF := hB0.free
    have pL := hB0.lt
    have pB := hB0.base
    have r0 := hB1.cell 0 (by simp)
    have r1 := hB1.cell 1 (by simp)
    have r2 := hB1.cell 2 (by simp)
    have r3 := hB1.cell 3 (by simp)
    have r4 := hB1.cell 4 (by simp)
    have r5 := hB1.cell 5 (by simp)
    have r6 := hB1.cell 6 (by simp)
    have r7 := hB1.cell 7 (by simp)
    have r8 := hB1.cell 8 (by simp)
    simp only [List.getElem?_cons_zero, List.getElem?_cons_succ] at r0 r1 r2 r3 r4 r5 r6 r7 r8
    have rF := hB1.free
    have rL := hB1.lt
    have rB := hB1.base
    have H := Lib.hid (And.intro hB0 (And.intro hB1 (And.intro hE hA1)))
    have hvc := hV.le
    have HR := Lib.hid hr0
    clear hr0 hr1 hB0 hB1 hE hA1 hA hV
    apply wp_region_ext 9 [is _, is _, is (.int .i64 oc), isOwn0 (N + 2), is _, is _, is (.slice (fromAddr V vc q) (vn - q) (vc - q)), isOwn (N + 2) (vn - q) (bytes l2), isQu (N + 2) oc (vn - q) (bytes l2)] (by kernel_rfl) (by kernel_rfl) rfl
    case hops =>
      simp only [List.take_succ_cons, List.take_zero]
      refine ⟨?_, ?_, ?_, ?_, ?_, ?_, ?_, ?_, ?_, trivial⟩
      all_goals
        intro vs x hd
        simp only [putAll, Act.put, List.setIfInBounds_toArray, List.set_cons_succ, List.set_cons_zero, Nat.zero_add, Nat.reduceAdd]
        simp [depFacts, is, isRow, isRowN, isBox, dataE] at hd
        try simp only [World.plus_plus] at hd
        simp only [Region.wanted, if_true]
        try simp [yielded, hd]
      rotate_left 3
      refine Lock.out ?_
      rotate_left 3
      refine Lock.out ?_
      rotate_left 1
      refine Lock.out ?_
      rotate_left 1
      refine Lock.out ?_
      rotate_left 1
      all_goals
        try (
        with_reducible show comes _ _ _ _ _
        simp only [comes]
        try simp [yielded, hd, comes]
        go_simp
        try go_bits
        first
          | exact ⟨Ext.refl _, rfl⟩
          | exact rfl
          | exact ⟨(Ext.refl _).alloc _, _, rfl, Cells.new _ _ _ _ rfl⟩
          | exact ⟨(Ext.refl _).alloc _, _, rfl, Box.new _ _ _ _ (by simp [World.le_plus]) rfl⟩
        )
      · refine ⟨?_, trivial⟩
        (simp only [comes]; go_simp; exact ⟨(Ext.refl _).alloc _, _, rfl, own_empty (Y.plus x) (N + 2) _ (by have := World.size_plus (w := Y) x; omega)⟩)
      · refine ⟨?_, trivial⟩
        exact comes_from (.tmp 21) (.tmp 22) 26 5 i0 rfl Try.underlying26 hi hz1 V vn vc q rfl rfl hqn ⟨Ext.refl _, by simp [is]⟩
      · refine ⟨?_, trivial⟩
        exact comes_app (.tmp 20) (.tmp 23) 26 rfl (vs 3) (.slice (fromAddr V vc q) (vn - q) (vc - q)) rfl rfl (HAPP2.out _ (vs 3) ((Ext.refl Y).plus_ x) hd.1 _)
      · refine ⟨?_, trivial⟩
        (have h9 := hd.2; obtain ⟨A5, c5, e, _, _⟩ := own_form h9; rw [e] at h9 ⊢; simp only [comes]; go_simp; exact ⟨Ext.refl _, A5, c5, rfl, h9⟩)
    case hst => exact ⟨(by apply is.st), (by apply is.st), (by apply is.st), (by apply isOwn0.st), (by apply is.st), (by apply is.st), (by apply is.st), (by apply isOwn.st), (by apply isQu.st), trivial⟩
    case hfin =>
      intro vs x hf
      try simp only [World.plus_plus] at hf ⊢
      simp only [List.take_succ_cons, List.take_zero, List.drop_succ_cons, List.drop_zero, putAll, Act.put, List.setIfInBounds_toArray, List.set_cons_succ, List.set_cons_zero]
      simp only [facts, is, Nat.zero_add, Nat.reduceAdd] at hf
      have f8 := hf.2.2.2.2.2.2.2.2.1
      simp only [Nat.zero_add, Nat.reduceAdd, hf]
      clear hf
      obtain ⟨A5, c5, e5, hQ5⟩ := f8
      rw [e5]
      clear e5
      obtain ⟨T, hT⟩ : ∃ T, T = Y.plus x := ⟨_, rfl⟩
      rw [← hT] at hQ5 ⊢
      have hYT : Ext Y T := by
        rw [hT]
        repeat' (first | with_reducible assumption | with_reducible exact Ext.refl _ | with_reducible apply Ext.alloc | with_reducible apply Ext.drew | with_reducible apply Ext.drewN | with_reducible apply Ext.plus_ | with_reducible refine Ext.put ?_ (by omega))
      clear hT
      obtain ⟨hB0, hB1, hE, hA1⟩ := H.out
      replace hB0 := hB0.ext hYT
      replace hB1 := hB1.ext hYT
      replace hE := hE.trans hYT
      replace hA1 := hA1.lift hYT
      clear p0 p1 p2 p3 p4 p5 p6 p7 p8 pF pL pB
      clear r0 r1 r2 r3 r4 r5 r6 r7 r8 rF rL rB
      have p0 := hB0.cell 0 (by simp)
      have p1 := hB0.cell 1 (by simp)
      have p2 := hB0.cell 2 (by simp)
      have p3 := hB0.cell 3 (by simp)
      have p4 := hB0.cell 4 (by simp)
      have p5 := hB0.cell 5 (by simp)
      have p6 := hB0.cell 6 (by simp)
      have p7 := hB0.cell 7 (by simp)
      have p8 := hB0.cell 8 (by simp)
      simp only [List.getElem?_cons_zero, List.getElem?_cons_succ] at p0 p1 p2 p3 p4 p5 p6 p7 p8
      have pF := hB0.free
      have pL := hB0.lt
      have pB := hB0.base
      have r0 := hB1.cell 0 (by simp)
      have r1 := hB1.cell 1 (by simp)
      have r2 := hB1.cell 2 (by simp)
      have r3 := hB1.cell 3 (by simp)
      have r4 := hB1.cell 4 (by simp)
      have r5 := hB1.cell 5 (by simp)
      have r6 := hB1.cell 6 (by simp)
      have r7 := hB1.cell 7 (by simp)
      have r8 := hB1.cell 8 (by simp)
      simp only [List.getElem?_cons_zero, List.getElem?_cons_succ] at r0 r1 r2 r3 r4 r5 r6 r7 r8
      have rF := hB1.free
      have rL := hB1.lt
      have rB := hB1.base
      have H5 := Lib.hid (And.intro hB0 (And.intro hB1 (And.intro hE (And.intro hA1 (And.intro (RB.of_own hQ5) hYT)))))
      clear hB0 hB1 hE hA1 hQ5 H hYT
      go_wp2_with fail
      refine wp_at fun Z hZ => ?_
      obtain ⟨hB0, hB1, hE, hA1, h5, hYT⟩ := H5.out
      replace hB1 : Box N [.int .i64 0, .int .i64 0, .int .i64 0, .slice none 0 0, .int .i64 0, .slice none 0 0, .int .i64 0, .bool false, .bool false] (N + 1) Z := by
        rw [hZ]
        repeat' (first | with_reducible assumption | ((with_reducible refine Box.fresh ?fb ?fn ?fr); (case fb => first | omega | (simp <;> omega)); (case fn => first | omega | (simp <;> omega)); (case fr => rfl)) | with_reducible apply Box.up | with_reducible apply Box.drew_ | with_reducible apply Box.drewN_ | with_reducible apply Box.plus_ | with_reducible apply Box.put | with_reducible refine Box.off ?_ (by omega))
        all_goals first | rfl | (simp; done)
      replace hB0 : Box N [.int .i64 id, .int .i64 cl, .int .i64 ic, .slice A n c, .int .i64 oc, .slice A5 (vn - q) c5, .int .i64 (0), .bool en, .bool cg] N Z := by
        rw [hZ]
        repeat' (first | with_reducible assumption | ((with_reducible refine Box.fresh ?fb ?fn ?fr); (case fb => first | omega | (simp <;> omega)); (case fn => first | omega | (simp <;> omega)); (case fr => rfl)) | with_reducible apply Box.up | with_reducible apply Box.drew_ | with_reducible apply Box.drewN_ | with_reducible apply Box.plus_ | with_reducible apply Box.put | with_reducible refine Box.off ?_ (by omega))
        all_goals first | rfl | (simp; done)
      have hN := HN.out
      replace hE : Ext w Z := by
        rw [hZ]
        repeat' (first | with_reducible assumption | with_reducible exact Ext.refl _ | with_reducible apply Ext.alloc | with_reducible apply Ext.drew | with_reducible apply Ext.drewN | with_reducible apply Ext.plus_ | with_reducible refine Ext.put ?_ (by omega))
      have hU : U8 T Z := by
        rw [hZ]
        repeat' (first | with_reducible exact U8.refl _ | with_reducible assumption | with_reducible apply U8.up | with_reducible apply U8.drew | ((with_reducible refine U8.putE ?_ ?_); rotate_left; (refine ⟨_, by assumption, ?_⟩); intro _ h; cases h) | ((with_reducible refine U8.new ?_ ?_); rotate_left; first | omega | (simp <;> omega)))
      replace hA1 := hA1.u8 hU
      replace h5 := h5.u8 hU
      have hr0 : Row Z Z.heap.size 1 V q (bytes l1) := ((RB.mk (HR.out.lift hYT) (show q ≤ vc by omega) hvm (fun h => by have := hvnil h; omega)).u8 hU).row
      have HAPP3 := Lib.hid (fun (W : World) (v : Value) (hX : Ext Z W) (hO : isOwn0 (N + 2) v W) (ty : TypeId) => app_lit W (N + 2) q v V vc l1 i0 hi hz0 hz1 hz2 hO (hr0.lift hX) (by omega) (by have := hX.size; have := hB1.lt; omega) ty)
      have hNZ : N + 2 ≤ Z.heap.size := hB1.lt
      clear p0 p1 p2 p3 p4 p5 p6 p7 p8 pF pL pB
      clear r0 r1 r2 r3 r4 r5 r6 r7 r8 rF rL rB
      have p0 := hB0.cell 0 (by simp)
      have p1 := hB0.cell 1 (by simp)
      have p2 := hB0.cell 2 (by simp)
      have p3 := hB0.cell 3 (by simp)
      have p4 := hB0.cell 4 (by simp)
      have p5 := hB0.cell 5 (by simp)
      have p6 := hB0.cell 6 (by simp)
      have p7 := hB0.cell 7 (by simp)
      have p8 := hB0.cell 8 (by simp)
      simp only [List.getElem?_cons_zero, List.getElem?_cons_succ] at p0 p1 p2 p3 p4 p5 p6 p7 p8
      have pF := hB0.free
      have pL := hB0.lt
      have pB := hB0.base
      have r0 := hB1.cell 0 (by simp)
      have r1 := hB1.cell 1 (by simp)
      have r2 := hB1.cell 2 (by simp)
      have r3 := hB1.cell 3 (by simp)
      have r4 := hB1.cell 4 (by simp)
      have r5 := hB1.cell 5 (by simp)
      have r6 := hB1.cell 6 (by simp)
      have r7 := hB1.cell 7 (by simp)
      have r8 := hB1.cell 8 (by simp)
      simp only [List.getElem?_cons_zero, List.getElem?_cons_succ] at r0 r1 r2 r3 r4 r5 r6 r7 r8
      have rF := hB1.free
      have rL := hB1.lt
      have rB := hB1.base
      have H6 := Lib.hid (And.intro hB0 (And.intro hB1 (And.intro hE (And.intro hA1 h5))))
      clear hB0 hB1 hE hA1 h5 hr0 HR hZ H5 hU hYT hN HAPP1 HAPP2
      apply wp_region_ext 6 [is (pv id cl ic A n c oc A5 (vn - q) c5 (0) en cg), isOwn0 (N + 2), is _, is _, is (.slice V q vc), isOwn (N + 2) q (bytes l1)] (by kernel_rfl) (by kernel_rfl) rfl
      case hops =>
        simp only [List.take_succ_cons, List.take_zero]
        refine ⟨?_, ?_, ?_, ?_, ?_, ?_, trivial⟩
        all_goals
          intro vs x hd
          simp only [putAll, Act.put, List.setIfInBounds_toArray, List.set_cons_succ, List.set_cons_zero, Nat.zero_add, Nat.reduceAdd]
          simp [depFacts, is, isRow, isRowN, isBox, dataE] at hd
          try simp only [World.plus_plus] at hd
          simp only [Region.wanted, if_true]
          try simp [yielded, hd]
        rotate_left 1
        refine Lock.out ?_
        rotate_left 4
        refine Lock.out ?_
        rotate_left 1
        all_goals
          try (
          with_reducible show comes _ _ _ _ _
          simp only [comes]
          try simp [yielded, hd, comes]
          go_simp
          try go_bits
          first
            | exact ⟨Ext.refl _, rfl⟩
            | exact rfl
            | exact ⟨(Ext.refl _).alloc _, _, rfl, Cells.new _ _ _ _ rfl⟩
            | exact ⟨(Ext.refl _).alloc _, _, rfl, Box.new _ _ _ _ (by simp [World.le_plus]) rfl⟩
          )
        · refine ⟨?_, trivial⟩
          (simp only [comes]; go_simp; exact ⟨(Ext.refl _).alloc _, _, rfl, own_empty (Z.plus x) (N + 2) _ (by have := World.size_plus (w := Z) x; omega)⟩)
        · refine ⟨?_, trivial⟩
          exact comes_app (.tmp 28) (.tmp 31) 26 rfl (vs 1) (.slice V q vc) rfl rfl (HAPP3.out _ (vs 1) ((Ext.refl Z).plus_ x) hd.1 _)
      case hst => exact ⟨(by apply is.st), (by apply isOwn0.st), (by apply is.st), (by apply is.st), (by apply is.st), (by apply isOwn.st), trivial⟩
      case hfin =>
        intro vs x hf
        try simp only [World.plus_plus] at hf ⊢
        simp only [List.take_succ_cons, List.take_zero, List.drop_succ_cons, List.drop_zero, putAll, Act.put, List.setIfInBounds_toArray, List.set_cons_succ, List.set_cons_zero]
        simp only [facts, is, Nat.zero_add, Nat.reduceAdd] at hf
        have f5 := hf.2.2.2.2.2.1
        simp only [Nat.zero_add, Nat.reduceAdd, hf]
        clear hf
        obtain ⟨A6, c6, e6, _, _⟩ := own_form f5
        rw [e6] at f5 ⊢
        obtain ⟨S, hS⟩ : ∃ T, T = Z.plus x := ⟨_, rfl⟩
        rw [← hS] at f5 ⊢
        have hZS : Ext Z S := by
          rw [hS]
          repeat' (first | with_reducible assumption | with_reducible exact Ext.refl _ | with_reducible apply Ext.alloc | with_reducible apply Ext.drew | with_reducible apply Ext.drewN | with_reducible apply Ext.plus_ | with_reducible refine Ext.put ?_ (by omega))
        clear hS
        obtain ⟨hB0, hB1, hE, hA1, h5⟩ := H6.out
        replace hB0 := hB0.ext hZS
        replace hB1 := hB1.ext hZS
        clear p0 p1 p2 p3 p4 p5 p6 p7 p8 pF pL pB
        clear r0 r1 r2 r3 r4 r5 r6 r7 r8 rF rL rB
        have p0 := hB0.cell 0 (by simp)
        have p1 := hB0.cell 1 (by simp)
        have p2 := hB0.cell 2 (by simp)
        have p3 := hB0.cell 3 (by simp)
        have p4 := hB0.cell 4 (by simp)
        have p5 := hB0.cell 5 (by simp)
        have p6 := hB0.cell 6 (by simp)
        have p7 := hB0.cell 7 (by simp)
        have p8 := hB0.cell 8 (by simp)
        simp only [List.getElem?_cons_zero, List.getElem?_cons_succ] at p0 p1 p2 p3 p4 p5 p6 p7 p8
        have pF := hB0.free
        have pL := hB0.lt
        have pB := hB0.base
        have r0 := hB1.cell 0 (by simp)
        have r1 := hB1.cell 1 (by simp)
        have r2 := hB1.cell 2 (by simp)
        have r3 := hB1.cell 3 (by simp)
        have r4 := hB1.cell 4 (by simp)
        have r5 := hB1.cell 5 (by simp)
        have r6 := hB1.cell 6 (by simp)
        have r7 := hB1.cell 7 (by simp)
        have r8 := hB1.cell 8 (by simp)
        simp only [List.getElem?_cons_zero, List.getElem?_cons_succ] at r0 r1 r2 r3 r4 r5 r6 r7 r8
        have rF := hB1.free
        have rL := hB1.lt
        have rB := hB1.base
        have H7 := Lib.hid (And.intro (hE.trans hZS) (And.intro (hA1.lift hZS) (And.intro (h5.lift hZS) (RB.of_own f5))))
        clear hB0 hB1 hE hA1 h5 hZS f5 e6 H6
        go_wp2
        refine bodyPost_ret (v := (.tuple #[pv id cl ic A n c oc A5 (vn - q) c5 (0) en cg, .slice A6 q c6])) (by simp [results, Try.results40, go_sem, r0, r1, r2, r3, r4, r5, r6, r7, r8]) rfl ?_
        obtain ⟨hE, hA1, h5, h6⟩ := H7.out
        obtain ⟨hl1, hl2⟩ := HLL.out
        have hN := HN.out
        unfold RfPost
        rw [HM.out, Int.toNat_natCast, ← hl1, ← hl2]
        refine ⟨_, _, rfl, ⟨A, n, c, A5, (vn - q), c5, (by rw [Int.sub_self]), hA1.u8 ?_, h5.u8 ?_⟩, ⟨A6, q, c6, rfl, h6.u8 ?_⟩, ?_⟩
        · repeat' (first | with_reducible exact U8.refl _ | with_reducible assumption | with_reducible apply U8.up | with_reducible apply U8.drew | ((with_reducible refine U8.putE ?_ ?_); rotate_left; (refine ⟨_, by assumption, ?_⟩); intro _ h; cases h) | ((with_reducible refine U8.new ?_ ?_); rotate_left; first | omega | (simp <;> omega)))
        · repeat' (first | with_reducible exact U8.refl _ | with_reducible assumption | with_reducible apply U8.up | with_reducible apply U8.drew | ((with_reducible refine U8.putE ?_ ?_); rotate_left; (refine ⟨_, by assumption, ?_⟩); intro _ h; cases h) | ((with_reducible refine U8.new ?_ ?_); rotate_left; first | omega | (simp <;> omega)))
        · repeat' (first | with_reducible exact U8.refl _ | with_reducible assumption | with_reducible apply U8.up | with_reducible apply U8.drew | ((with_reducible refine U8.putE ?_ ?_); rotate_left; (refine ⟨_, by assumption, ?_⟩); intro _ h; cases h) | ((with_reducible refine U8.new ?_ ?_); rotate_left; first | omega | (simp <;> omega)))
        · repeat' (first | with_reducible assumption | with_reducible exact Ext.refl _ | with_reducible apply Ext.alloc | with_reducible apply Ext.drew | with_reducible apply Ext.drewN | with_reducible apply Ext.plus_ | with_reducible refine Ext.put ?_ (by omega))
  · have hqn : vn ≤ vn := Nat.le_refl vn
    have hqm : (vn : Int) < (q : Int) := by omega
    have HM := Lib.hid (show min (q : Int) (b.length : Int) = ((vn : Nat) : Int) by omega)
    clear hq hbl
    have hqc0 : (0 : Int) ≤ (vn : Int) := by omega
    have hqc1 : (vn : Int) ≤ (vc : Int) := by omega
    have hqn1 : (vn : Int) ≤ (vn : Int) := by omega
    go_enter Try.func40, Try.ntmps40
    go_wp2_with fail
    refine wp_at fun Y hY => ?_
    obtain ⟨N, hN⟩ : ∃ N, N = w.heap.size := ⟨_, rfl⟩
    have hB1 : Box N [.int .i64 0, .int .i64 0, .int .i64 0, .slice none 0 0, .int .i64 0, .slice none 0 0, .int .i64 0, .bool false, .bool false] (N + 1) Y := by
      rw [hY]
      repeat' (first | with_reducible assumption | ((with_reducible refine Box.fresh ?fb ?fn ?fr); (case fb => first | omega | (simp <;> omega)); (case fn => first | omega | (simp <;> omega)); (case fr => rfl)) | with_reducible apply Box.up | with_reducible apply Box.drew_ | with_reducible apply Box.drewN_ | with_reducible apply Box.plus_ | with_reducible apply Box.put | with_reducible refine Box.off ?_ (by omega))
      all_goals first | rfl | (simp; done)
    have hB0 : Box N [.int .i64 id, .int .i64 cl, .int .i64 ic, .slice A n c, .int .i64 oc, .slice B m d, .int .i64 ((q : Int) - vn), .bool en, .bool cg] N Y := by
      rw [hY]
      repeat' (first | with_reducible assumption | ((with_reducible refine Box.fresh ?fb ?fn ?fr); (case fb => first | omega | (simp <;> omega)); (case fn => first | omega | (simp <;> omega)); (case fr => rfl)) | with_reducible apply Box.up | with_reducible apply Box.drew_ | with_reducible apply Box.drewN_ | with_reducible apply Box.plus_ | with_reducible apply Box.put | with_reducible refine Box.off ?_ (by omega))
      all_goals first | rfl | (simp; done)
    have hE : Ext w Y := by
      rw [hY]
      repeat' (first | with_reducible assumption | with_reducible exact Ext.refl _ | with_reducible apply Ext.alloc | with_reducible apply Ext.drew | with_reducible apply Ext.drewN | with_reducible apply Ext.plus_ | with_reducible refine Ext.put ?_ (by omega))
    rw [← hN]
    have HN := Lib.hid hN
    clear hY hN
    have hA1 := hA.lift hE
    have hr0 := (hV.lift hE).row.take vn hqn
    have hr1 := (hV.lift hE).row.from_ hqn hV.le
    try simp only [Nat.sub_zero, Nat.sub_self] at hr1
    rw [show (bytes b).take vn = bytes (b.take vn) by simp] at hr0
    rw [show (bytes b).drop vn = bytes (b.drop vn) by simp] at hr1
    obtain ⟨l1, hl1⟩ : ∃ l1, l1 = b.take vn := ⟨_, rfl⟩
    obtain ⟨l2, hl2⟩ : ∃ l2, l2 = b.drop vn := ⟨_, rfl⟩
    rw [← hl1] at hr0
    rw [← hl2] at hr1
    have HLL := Lib.hid (And.intro hl1 hl2)
    clear hl1 hl2
    have HAPP1 := Lib.hid (fun (W : World) (v : Value) (hX : Ext Y W) (hO : isOwn0 (N + 2) v W) (ty : TypeId) => app_lit W (N + 2) vn v V vc l1 i0 hi hz0 hz1 hz2 hO (hr0.lift hX) (by omega) (by have := hX.size; have := hB1.lt; omega) ty)
    have HAPP2 := Lib.hid (fun (W : World) (v : Value) (hX : Ext Y W) (hO : isOwn0 (N + 2) v W) (ty : TypeId) => app_lit W (N + 2) 0 v (fromAddr V vc vn) (vc - vn) l2 i0 hi hz0 hz1 hz2 hO (hr1.lift hX) (by omega) (by have := hX.size; have := hB1.lt; omega) ty)
    have hNY : N + 2 ≤ Y.heap.size := hB1.lt
    have p0 := hB0.cell 0 (by simp)
    have p1 := hB0.cell 1 (by simp)
    have p2 := hB0.cell 2 (by simp)
    have p3 := hB0.cell 3 (by simp)
    have p4 := hB0.cell 4 (by simp)
    have p5 := hB0.cell 5 (by simp)
    have p6 := hB0.cell 6 (by simp)
    have p7 := hB0.cell 7 (by simp)
    have p8 := hB0.cell 8 (by simp)
    simp only [List.getElem?_cons_zero, List.getElem?_cons_succ] at p0 p1 p2 p3 p4 p5 p6 p7 p8
    have pF := hB0.free
    have pL := hB0.lt
    have pB := hB0.base
    have r0 := hB1.cell 0 (by simp)
    have r1 := hB1.cell 1 (by simp)
    have r2 := hB1.cell 2 (by simp)
    have r3 := hB1.cell 3 (by simp)
    have r4 := hB1.cell 4 (by simp)
    have r5 := hB1.cell 5 (by simp)
    have r6 := hB1.cell 6 (by simp)
    have r7 := hB1.cell 7 (by simp)
    have r8 := hB1.cell 8 (by simp)
    simp only [List.getElem?_cons_zero, List.getElem?_cons_succ] at r0 r1 r2 r3 r4 r5 r6 r7 r8
    have rF := hB1.free
    have rL := hB1.lt
    have rB := hB1.base
    have H := Lib.hid (And.intro hB0 (And.intro hB1 (And.intro hE hA1)))
    have hvc := hV.le
    have HR := Lib.hid hr0
    clear hr0 hr1 hB0 hB1 hE hA1 hA hV
    apply wp_region_ext 9 [is _, is _, is (.int .i64 oc), isOwn0 (N + 2), is _, is _, is (.slice (fromAddr V vc vn) 0 (vc - vn)), isOwn (N + 2) 0 (bytes l2), isQu (N + 2) oc 0 (bytes l2)] (by kernel_rfl) (by kernel_rfl) rfl
    case hops =>
      simp only [List.take_succ_cons, List.take_zero]
      refine ⟨?_, ?_, ?_, ?_, ?_, ?_, ?_, ?_, ?_, trivial⟩
      all_goals
        intro vs x hd
        simp only [putAll, Act.put, List.setIfInBounds_toArray, List.set_cons_succ, List.set_cons_zero, Nat.zero_add, Nat.reduceAdd]
        simp [depFacts, is, isRow, isRowN, isBox, dataE] at hd
        try simp only [World.plus_plus] at hd
        simp only [Region.wanted, if_true]
        try simp [yielded, hd]
      rotate_left 3
      refine Lock.out ?_
      rotate_left 3
      refine Lock.out ?_
      rotate_left 1
      refine Lock.out ?_
      rotate_left 1
      refine Lock.out ?_
      rotate_left 1
      all_goals
        try (
        with_reducible show comes _ _ _ _ _
        simp only [comes]
        try simp [yielded, hd, comes]
        go_simp
        try go_bits
        first
          | exact ⟨Ext.refl _, rfl⟩
          | exact rfl
          | exact ⟨(Ext.refl _).alloc _, _, rfl, Cells.new _ _ _ _ rfl⟩
          | exact ⟨(Ext.refl _).alloc _, _, rfl, Box.new _ _ _ _ (by simp [World.le_plus]) rfl⟩
        )
      · refine ⟨?_, trivial⟩
        (simp only [comes]; go_simp; exact ⟨(Ext.refl _).alloc _, _, rfl, own_empty (Y.plus x) (N + 2) _ (by have := World.size_plus (w := Y) x; omega)⟩)
      · refine ⟨?_, trivial⟩
        exact comes_from (.tmp 21) (.tmp 22) 26 5 i0 rfl Try.underlying26 hi hz1 V vn vc vn rfl rfl hqn ⟨Ext.refl _, by simp [is]⟩
      · refine ⟨?_, trivial⟩
        exact comes_app (.tmp 20) (.tmp 23) 26 rfl (vs 3) (.slice (fromAddr V vc vn) 0 (vc - vn)) rfl rfl (HAPP2.out _ (vs 3) ((Ext.refl Y).plus_ x) hd.1 _)
      · refine ⟨?_, trivial⟩
        (have h9 := hd.2; obtain ⟨A5, c5, e, _, _⟩ := own_form h9; rw [e] at h9 ⊢; simp only [comes]; go_simp; exact ⟨Ext.refl _, A5, c5, rfl, h9⟩)
    case hst => exact ⟨(by apply is.st), (by apply is.st), (by apply is.st), (by apply isOwn0.st), (by apply is.st), (by apply is.st), (by apply is.st), (by apply isOwn.st), (by apply isQu.st), trivial⟩
    case hfin =>
      intro vs x hf
      try simp only [World.plus_plus] at hf ⊢
      simp only [List.take_succ_cons, List.take_zero, List.drop_succ_cons, List.drop_zero, putAll, Act.put, List.setIfInBounds_toArray, List.set_cons_succ, List.set_cons_zero]
      simp only [facts, is, Nat.zero_add, Nat.reduceAdd] at hf
      have f8 := hf.2.2.2.2.2.2.2.2.1
      simp only [Nat.zero_add, Nat.reduceAdd, hf]
      clear hf
      obtain ⟨A5, c5, e5, hQ5⟩ := f8
      rw [e5]
      clear e5
      obtain ⟨T, hT⟩ : ∃ T, T = Y.plus x := ⟨_, rfl⟩
      rw [← hT] at hQ5 ⊢
      have hYT : Ext Y T := by
        rw [hT]
        repeat' (first | with_reducible assumption | with_reducible exact Ext.refl _ | with_reducible apply Ext.alloc | with_reducible apply Ext.drew | with_reducible apply Ext.drewN | with_reducible apply Ext.plus_ | with_reducible refine Ext.put ?_ (by omega))
      clear hT
      obtain ⟨hB0, hB1, hE, hA1⟩ := H.out
      replace hB0 := hB0.ext hYT
      replace hB1 := hB1.ext hYT
      replace hE := hE.trans hYT
      replace hA1 := hA1.lift hYT
      clear p0 p1 p2 p3 p4 p5 p6 p7 p8 pF pL pB
      clear r0 r1 r2 r3 r4 r5 r6 r7 r8 rF rL rB
      have p0 := hB0.cell 0 (by simp)
      have p1 := hB0.cell 1 (by simp)
      have p2 := hB0.cell 2 (by simp)
      have p3 := hB0.cell 3 (by simp)
      have p4 := hB0.cell 4 (by simp)
      have p5 := hB0.cell 5 (by simp)
      have p6 := hB0.cell 6 (by simp)
      have p7 := hB0.cell 7 (by simp)
      have p8 := hB0.cell 8 (by simp)
      simp only [List.getElem?_cons_zero, List.getElem?_cons_succ] at p0 p1 p2 p3 p4 p5 p6 p7 p8
      have pF := hB0.free
      have pL := hB0.lt
      have pB := hB0.base
      have r0 := hB1.cell 0 (by simp)
      have r1 := hB1.cell 1 (by simp)
      have r2 := hB1.cell 2 (by simp)
      have r3 := hB1.cell 3 (by simp)
      have r4 := hB1.cell 4 (by simp)
      have r5 := hB1.cell 5 (by simp)
      have r6 := hB1.cell 6 (by simp)
      have r7 := hB1.cell 7 (by simp)
      have r8 := hB1.cell 8 (by simp)
      simp only [List.getElem?_cons_zero, List.getElem?_cons_succ] at r0 r1 r2 r3 r4 r5 r6 r7 r8
      have rF := hB1.free
      have rL := hB1.lt
      have rB := hB1.base
      have H5 := Lib.hid (And.intro hB0 (And.intro hB1 (And.intro hE (And.intro hA1 (And.intro (RB.of_own hQ5) hYT)))))
      clear hB0 hB1 hE hA1 hQ5 H hYT
      go_wp2_with fail
      refine wp_at fun Z hZ => ?_
      obtain ⟨hB0, hB1, hE, hA1, h5, hYT⟩ := H5.out
      replace hB1 : Box N [.int .i64 0, .int .i64 0, .int .i64 0, .slice none 0 0, .int .i64 0, .slice none 0 0, .int .i64 0, .bool false, .bool false] (N + 1) Z := by
        rw [hZ]
        repeat' (first | with_reducible assumption | ((with_reducible refine Box.fresh ?fb ?fn ?fr); (case fb => first | omega | (simp <;> omega)); (case fn => first | omega | (simp <;> omega)); (case fr => rfl)) | with_reducible apply Box.up | with_reducible apply Box.drew_ | with_reducible apply Box.drewN_ | with_reducible apply Box.plus_ | with_reducible apply Box.put | with_reducible refine Box.off ?_ (by omega))
        all_goals first | rfl | (simp; done)
      replace hB0 : Box N [.int .i64 id, .int .i64 cl, .int .i64 ic, .slice A n c, .int .i64 oc, .slice A5 0 c5, .int .i64 ((q : Int) - vn), .bool en, .bool cg] N Z := by
        rw [hZ]
        repeat' (first | with_reducible assumption | ((with_reducible refine Box.fresh ?fb ?fn ?fr); (case fb => first | omega | (simp <;> omega)); (case fn => first | omega | (simp <;> omega)); (case fr => rfl)) | with_reducible apply Box.up | with_reducible apply Box.drew_ | with_reducible apply Box.drewN_ | with_reducible apply Box.plus_ | with_reducible apply Box.put | with_reducible refine Box.off ?_ (by omega))
        all_goals first | rfl | (simp; done)
      have hN := HN.out
      replace hE : Ext w Z := by
        rw [hZ]
        repeat' (first | with_reducible assumption | with_reducible exact Ext.refl _ | with_reducible apply Ext.alloc | with_reducible apply Ext.drew | with_reducible apply Ext.drewN | with_reducible apply Ext.plus_ | with_reducible refine Ext.put ?_ (by omega))
      have hU : U8 T Z := by
        rw [hZ]
        repeat' (first | with_reducible exact U8.refl _ | with_reducible assumption | with_reducible apply U8.up | with_reducible apply U8.drew | ((with_reducible refine U8.putE ?_ ?_); rotate_left; (refine ⟨_, by assumption, ?_⟩); intro _ h; cases h) | ((with_reducible refine U8.new ?_ ?_); rotate_left; first | omega | (simp <;> omega)))
      replace hA1 := hA1.u8 hU
      replace h5 := h5.u8 hU
      have hr0 : Row Z Z.heap.size 1 V vn (bytes l1) := ((RB.mk (HR.out.lift hYT) (show vn ≤ vc by omega) hvm (fun h => by have := hvnil h; omega)).u8 hU).row
      have HAPP3 := Lib.hid (fun (W : World) (v : Value) (hX : Ext Z W) (hO : isOwn0 (N + 2) v W) (ty : TypeId) => app_lit W (N + 2) vn v V vc l1 i0 hi hz0 hz1 hz2 hO (hr0.lift hX) (by omega) (by have := hX.size; have := hB1.lt; omega) ty)
      have hNZ : N + 2 ≤ Z.heap.size := hB1.lt
      clear p0 p1 p2 p3 p4 p5 p6 p7 p8 pF pL pB
      clear r0 r1 r2 r3 r4 r5 r6 r7 r8 rF rL rB
      have p0 := hB0.cell 0 (by simp)
      have p1 := hB0.cell 1 (by simp)
      have p2 := hB0.cell 2 (by simp)
      have p3 := hB0.cell 3 (by simp)
      have p4 := hB0.cell 4 (by simp)
      have p5 := hB0.cell 5 (by simp)
      have p6 := hB0.cell 6 (by simp)
      have p7 := hB0.cell 7 (by simp)
      have p8 := hB0.cell 8 (by simp)
      simp only [List.getElem?_cons_zero, List.getElem?_cons_succ] at p0 p1 p2 p3 p4 p5 p6 p7 p8
      have pF := hB0.free
      have pL := hB0.lt
      have pB := hB0.base
      have r0 := hB1.cell 0 (by simp)
      have r1 := hB1.cell 1 (by simp)
      have r2 := hB1.cell 2 (by simp)
      have r3 := hB1.cell 3 (by simp)
      have r4 := hB1.cell 4 (by simp)
      have r5 := hB1.cell 5 (by simp)
      have r6 := hB1.cell 6 (by simp)
      have r7 := hB1.cell 7 (by simp)
      have r8 := hB1.cell 8 (by simp)
      simp only [List.getElem?_cons_zero, List.getElem?_cons_succ] at r0 r1 r2 r3 r4 r5 r6 r7 r8
      have rF := hB1.free
      have rL := hB1.lt
      have rB := hB1.base
      have H6 := Lib.hid (And.intro hB0 (And.intro hB1 (And.intro hE (And.intro hA1 h5))))
      clear hB0 hB1 hE hA1 h5 hr0 HR hZ H5 hU hYT hN HAPP1 HAPP2
      apply wp_region_ext 6 [is (pv id cl ic A n c oc A5 0 c5 ((q : Int) - vn) en cg), isOwn0 (N + 2), is _, is _, is (.slice V vn vc), isOwn (N + 2) vn (bytes l1)] (by kernel_rfl) (by kernel_rfl) rfl
      case hops =>
        simp only [List.take_succ_cons, List.take_zero]
        refine ⟨?_, ?_, ?_, ?_, ?_, ?_, trivial⟩
        all_goals
          intro vs x hd
          simp only [putAll, Act.put, List.setIfInBounds_toArray, List.set_cons_succ, List.set_cons_zero, Nat.zero_add, Nat.reduceAdd]
          simp [depFacts, is, isRow, isRowN, isBox, dataE] at hd
          try simp only [World.plus_plus] at hd
          simp only [Region.wanted, if_true]
          try simp [yielded, hd]
        rotate_left 1
        refine Lock.out ?_
        rotate_left 4
        refine Lock.out ?_
        rotate_left 1
        all_goals
          try (
          with_reducible show comes _ _ _ _ _
          simp only [comes]
          try simp [yielded, hd, comes]
          go_simp
          try go_bits
          first
            | exact ⟨Ext.refl _, rfl⟩
            | exact rfl
            | exact ⟨(Ext.refl _).alloc _, _, rfl, Cells.new _ _ _ _ rfl⟩
            | exact ⟨(Ext.refl _).alloc _, _, rfl, Box.new _ _ _ _ (by simp [World.le_plus]) rfl⟩
          )
        · refine ⟨?_, trivial⟩
          (simp only [comes]; go_simp; exact ⟨(Ext.refl _).alloc _, _, rfl, own_empty (Z.plus x) (N + 2) _ (by have := World.size_plus (w := Z) x; omega)⟩)
        · refine ⟨?_, trivial⟩
          exact comes_app (.tmp 28) (.tmp 31) 26 rfl (vs 1) (.slice V vn vc) rfl rfl (HAPP3.out _ (vs 1) ((Ext.refl Z).plus_ x) hd.1 _)
      case hst => exact ⟨(by apply is.st), (by apply isOwn0.st), (by apply is.st), (by apply is.st), (by apply is.st), (by apply isOwn.st), trivial⟩
      case hfin =>
        intro vs x hf
        try simp only [World.plus_plus] at hf ⊢
        simp only [List.take_succ_cons, List.take_zero, List.drop_succ_cons, List.drop_zero, putAll, Act.put, List.setIfInBounds_toArray, List.set_cons_succ, List.set_cons_zero]
        simp only [facts, is, Nat.zero_add, Nat.reduceAdd] at hf
        have f5 := hf.2.2.2.2.2.1
        simp only [Nat.zero_add, Nat.reduceAdd, hf]
        clear hf
        obtain ⟨A6, c6, e6, _, _⟩ := own_form f5
        rw [e6] at f5 ⊢
        obtain ⟨S, hS⟩ : ∃ T, T = Z.plus x := ⟨_, rfl⟩
        rw [← hS] at f5 ⊢
        have hZS : Ext Z S := by
          rw [hS]
          repeat' (first | with_reducible assumption | with_reducible exact Ext.refl _ | with_reducible apply Ext.alloc | with_reducible apply Ext.drew | with_reducible apply Ext.drewN | with_reducible apply Ext.plus_ | with_reducible refine Ext.put ?_ (by omega))
        clear hS
        obtain ⟨hB0, hB1, hE, hA1, h5⟩ := H6.out
        replace hB0 := hB0.ext hZS
        replace hB1 := hB1.ext hZS
        clear p0 p1 p2 p3 p4 p5 p6 p7 p8 pF pL pB
        clear r0 r1 r2 r3 r4 r5 r6 r7 r8 rF rL rB
        have p0 := hB0.cell 0 (by simp)
        have p1 := hB0.cell 1 (by simp)
        have p2 := hB0.cell 2 (by simp)
        have p3 := hB0.cell 3 (by simp)
        have p4 := hB0.cell 4 (by simp)
        have p5 := hB0.cell 5 (by simp)
        have p6 := hB0.cell 6 (by simp)
        have p7 := hB0.cell 7 (by simp)
        have p8 := hB0.cell 8 (by simp)
        simp only [List.getElem?_cons_zero, List.getElem?_cons_succ] at p0 p1 p2 p3 p4 p5 p6 p7 p8
        have pF := hB0.free
        have pL := hB0.lt
        have pB := hB0.base
        have r0 := hB1.cell 0 (by simp)
        have r1 := hB1.cell 1 (by simp)
        have r2 := hB1.cell 2 (by simp)
        have r3 := hB1.cell 3 (by simp)
        have r4 := hB1.cell 4 (by simp)
        have r5 := hB1.cell 5 (by simp)
        have r6 := hB1.cell 6 (by simp)
        have r7 := hB1.cell 7 (by simp)
        have r8 := hB1.cell 8 (by simp)
        simp only [List.getElem?_cons_zero, List.getElem?_cons_succ] at r0 r1 r2 r3 r4 r5 r6 r7 r8
        have rF := hB1.free
        have rL := hB1.lt
        have rB := hB1.base
        have H7 := Lib.hid (And.intro (hE.trans hZS) (And.intro (hA1.lift hZS) (And.intro (h5.lift hZS) (RB.of_own f5))))
        clear hB0 hB1 hE hA1 h5 hZS f5 e6 H6
        go_wp2
        refine bodyPost_ret (v := (.tuple #[pv id cl ic A n c oc A5 0 c5 ((q : Int) - vn) en cg, .slice A6 vn c6])) (by simp [results, Try.results40, go_sem, r0, r1, r2, r3, r4, r5, r6, r7, r8]) rfl ?_
        obtain ⟨hE, hA1, h5, h6⟩ := H7.out
        obtain ⟨hl1, hl2⟩ := HLL.out
        have hN := HN.out
        unfold RfPost
        rw [HM.out, Int.toNat_natCast, ← hl1, ← hl2]
        refine ⟨_, _, rfl, ⟨A, n, c, A5, 0, c5, rfl, hA1.u8 ?_, h5.u8 ?_⟩, ⟨A6, vn, c6, rfl, h6.u8 ?_⟩, ?_⟩
        · repeat' (first | with_reducible exact U8.refl _ | with_reducible assumption | with_reducible apply U8.up | with_reducible apply U8.drew | ((with_reducible refine U8.putE ?_ ?_); rotate_left; (refine ⟨_, by assumption, ?_⟩); intro _ h; cases h) | ((with_reducible refine U8.new ?_ ?_); rotate_left; first | omega | (simp <;> omega)))
        · repeat' (first | with_reducible exact U8.refl _ | with_reducible assumption | with_reducible apply U8.up | with_reducible apply U8.drew | ((with_reducible refine U8.putE ?_ ?_); rotate_left; (refine ⟨_, by assumption, ?_⟩); intro _ h; cases h) | ((with_reducible refine U8.new ?_ ?_); rotate_left; first | omega | (simp <;> omega)))
        · repeat' (first | with_reducible exact U8.refl _ | with_reducible assumption | with_reducible apply U8.up | with_reducible apply U8.drew | ((with_reducible refine U8.putE ?_ ?_); rotate_left; (refine ⟨_, by assumption, ?_⟩); intro _ h; cases h) | ((with_reducible refine U8.new ?_ ?_); rotate_left; first | omega | (simp <;> omega)))
        · repeat' (first | with_reducible assumption | with_reducible exact Ext.refl _ | with_reducible apply Ext.alloc | with_reducible apply Ext.drew | with_reducible apply Ext.drewN | with_reducible apply Ext.plus_ | with_reducible refine Ext.put ?_ (by omega))
end Go.Proofs.Ytphbmibgnnobcaa
