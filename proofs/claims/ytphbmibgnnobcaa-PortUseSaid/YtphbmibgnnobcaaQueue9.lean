/- Queues: Take of the reference. -/
import Derived.Test.YtphbmibgnnobcaaQueue8
import Derived.Test.YtphbmibgnnobcaaSlice
set_option linter.unusedVariables false
namespace Go.Proofs.Ytphbmibgnnobcaa
open Go.RowKit Go.Rg

set_option maxHeartbeats 4000000 in
theorem refTake_any (k : Int) (A : Option Addr) (n c : Nat) (l : List Int) (m : Int) (w : World) (hr : Row w w.heap.size 1 A n (bytes l)) (hA : A = none → n = 0 ∧ c = 0) (hc : n ≤ c) (hcm : c ≤ 9223372036854775807) (hn : n ≤ 140737488355328) :
    Calls Try.prog 43 #[qu k A n c, .int .i64 m] w (TakePost w k l (qfirst k n m).toNat) := by
  obtain ⟨i0, hi, hz0, hz1, hz2⟩ := info_parts Try.infoByte
  have HA := Lib.hid hA
  have HL := Lib.hid (show l.length = n by have := hr.len; simpa using this)
  have HR := Lib.hid hr
  clear hr hA
  by_cases hv : QOK k n
  · have d : decide (QOK k n) = true := decide_eq_true hv
    have HV := Lib.hid d
    clear d
    have hqf : qfirst k n m = if m < 0 then 0 else if m ≤ n then m else n := by unfold qfirst; rw [if_pos hv]
    clear hv
    obtain ⟨q, hq⟩ := Int.eq_ofNat_of_zero_le (qfirst_bd k n m).1
    have hqn : q ≤ n := by have := (qfirst_bd k n m).2; omega
    rw [hq] at hqf ⊢
    clear hq
    rw [show ((q : Int)).toNat = q by simp]
    rcases Int.lt_or_le m 0 with h0 | h0
    · rw [if_pos h0] at hqf
      obtain rfl : q = 0 := by omega
      clear hqf
      have hqc0 : (0 : Int) ≤ (0 : Int) := by omega
      have hqc1 : (0 : Int) ≤ (c : Int) := by omega
      have hqn1 : (0 : Int) ≤ (n : Int) := by omega
      go_enter Try.func43, Try.ntmps43
      go_wp2_with fail
      refine (refValid_any k A n c _ (by omega)).mono ?_
      rw [HV.out]
      rintro e w1 ⟨rfl, hE1⟩
      obtain ⟨N, hN⟩ : ∃ N, N = w.heap.size := ⟨_, rfl⟩
      have hB0 : Box w.heap.size [.int .i64 k, .slice A n c] N w1 := by rw [hN]; exact ((Box.new w #[.int .i64 k, .slice A n c] 28 _ (Nat.le_refl _) rfl).ext ((Ext.refl _).alloc _)).ext hE1
      have hB1 : Box w.heap.size [.int .i64 0, .slice none 0 0] (N + 1) w1 := by
        have := (Box.new (N := w.heap.size) (w.alloc (.cells #[.int .i64 k, .slice A n c] 28)) #[.int .i64 0, .slice none 0 0] 28 _ (by simp) rfl).ext hE1
        rw [hN]; simpa using this
      have hE : Ext w w1 := (((Ext.refl w).alloc _).alloc _).trans hE1
      have HN := Lib.hid hN
      rw [← hN]
      clear hE1 hN
      have hNs := hB0.base
      have b1 := hB1.base
      have hf15 := hB1.free
      have hl05 := hB0.lt
      have hl15 := hB1.lt
      have hc00 := hB0.cell 0 (by simp)
      have hc01 := hB0.cell 1 (by simp)
      have hc10 := hB1.cell 0 (by simp)
      have hc11 := hB1.cell 1 (by simp)
      simp only [List.getElem?_cons_zero, List.getElem?_cons_succ] at hc00 hc01 hc10 hc11
      have H1 := Lib.hid (And.intro hB0 (And.intro hB1 hE))
      clear hB0 hB1 hE
      have hr0 := (HR.out.lift H1.out.2.2).take 0 hqn
      have hr1 := (HR.out.lift H1.out.2.2).from_ hqn hc
      try simp only [Nat.sub_zero, Nat.sub_self] at hr1
      rw [show (bytes l).take 0 = bytes (l.take 0) by simp] at hr0
      rw [show (bytes l).drop 0 = bytes (l.drop 0) by simp] at hr1
      obtain ⟨l1, hl1⟩ : ∃ l1, l1 = l.take 0 := ⟨_, rfl⟩
      obtain ⟨l2, hl2⟩ : ∃ l2, l2 = l.drop 0 := ⟨_, rfl⟩
      rw [← hl1] at hr0
      rw [← hl2] at hr1
      have HLL := Lib.hid (And.intro hl1 hl2)
      clear hl1 hl2
      have HAPP1 := Lib.hid (fun (W : World) (v : Value) (hX : Ext w1 W) (hO : isOwn0 (N + 2) v W) (ty : TypeId) => app_lit W (N + 2) 0 v A c l1 i0 hi hz0 hz1 hz2 hO (hr0.lift hX) (by omega) (by have := hX.size; omega) ty)
      have HAPP2 := Lib.hid (fun (W : World) (v : Value) (hX : Ext w1 W) (hO : isOwn0 (N + 2) v W) (ty : TypeId) => app_lit W (N + 2) n v (fromAddr A c 0) c l2 i0 hi hz0 hz1 hz2 hO (hr1.lift hX) (by omega) (by have := hX.size; omega) ty)
      clear hr0 hr1
      go_wp2_with fail
      apply wp_region_ext 16 [isOwn0 (N + 2), is _, is _, is _, is _, isOwn (N + 2) 0 (bytes l1), is _, is _, isOwn0 (N + 2), is _, is _, is _, is (.slice (fromAddr A c 0) n c), isOwn (N + 2) n (bytes l2), isQu (N + 2) k n (bytes l2), isOwn (N + 2) 0 (bytes l1)] (by kernel_rfl) (by kernel_rfl) rfl
      case hops =>
        simp only [List.take_succ_cons, List.take_zero]
        refine ⟨?_, ?_, ?_, ?_, ?_, ?_, ?_, ?_, ?_, ?_, ?_, ?_, ?_, ?_, ?_, ?_, trivial⟩
        all_goals
          intro vs x hd
          simp only [putAll, Act.put, List.setIfInBounds_toArray, List.set_cons_succ, List.set_cons_zero, Nat.zero_add, Nat.reduceAdd]
          simp [depFacts, is, isRow, isRowN, isBox, dataE] at hd
          try simp only [World.plus_plus] at hd
          simp only [Region.wanted, if_true]
          try simp [yielded, hd]
        refine Lock.out ?_
        rotate_left 5
        refine Lock.out ?_
        rotate_left 3
        refine Lock.out ?_
        rotate_left 4
        refine Lock.out ?_
        rotate_left 1
        refine Lock.out ?_
        rotate_left 1
        refine Lock.out ?_
        rotate_left 1
        refine Lock.out ?_
        rotate_left 1
        all_goals
          try (
          with_reducible show comes _ _ _ _ _
          simp only [comes]
          try simp [yielded, hd, comes]
          go_simp
          try go_bits
          first
            | exact ⟨Ext.refl _, rfl⟩
            | exact rfl
            | exact ⟨(Ext.refl _).alloc _, _, rfl, Cells.new _ _ _ _ rfl⟩
            | exact ⟨(Ext.refl _).alloc _, _, rfl, Box.new _ _ _ _ (by simp [World.le_plus]) rfl⟩
          )
        · refine ⟨?_, trivial⟩
          (simp only [comes]; go_simp; exact ⟨(Ext.refl _).alloc _, _, rfl, own_empty (w1.plus x) (N + 2) _ (by have := World.size_plus (w := w1) x; omega)⟩)
        · refine ⟨?_, trivial⟩
          exact comes_app (.tmp 16) (.tmp 20) 26 rfl (vs 0) (.slice A 0 c) rfl rfl (HAPP1.out _ (vs 0) ((Ext.refl w1).plus_ x) hd.1 _)
        · refine ⟨?_, trivial⟩
          (simp only [comes]; go_simp; exact ⟨(Ext.refl _).alloc _, _, rfl, own_empty (w1.plus x) (N + 2) _ (by have := World.size_plus (w := w1) x; omega)⟩)
        · refine ⟨?_, trivial⟩
          exact comes_from (.tmp 26) (.tmp 27) 26 5 i0 rfl Try.underlying26 hi hz1 A n c 0 rfl rfl hqn ⟨Ext.refl _, by simp [is]⟩
        · refine ⟨?_, trivial⟩
          exact comes_app (.tmp 24) (.tmp 28) 26 rfl (vs 8) (.slice (fromAddr A c 0) n c) rfl rfl (HAPP2.out _ (vs 8) ((Ext.refl w1).plus_ x) hd.1 _)
        · refine ⟨?_, trivial⟩
          (have h9 := hd.2; obtain ⟨A5, c5, e, _, _⟩ := own_form h9; rw [e] at h9 ⊢; simp only [comes]; go_simp; exact ⟨Ext.refl _, A5, c5, rfl, h9⟩)
        · refine ⟨?_, trivial⟩
          (simp only [comes]; go_simp; first | exact Ext.refl _ | exact ⟨Ext.refl _, hd⟩)
      case hst => exact ⟨(by apply isOwn0.st), (by apply is.st), (by apply is.st), (by apply is.st), (by apply is.st), (by apply isOwn.st), (by apply is.st), (by apply is.st), (by apply isOwn0.st), (by apply is.st), (by apply is.st), (by apply is.st), (by apply is.st), (by apply isOwn.st), (by apply isQu.st), (by apply isOwn.st), trivial⟩
      case hfin =>
        intro vs x hf
        try simp only [World.plus_plus] at hf ⊢
        simp only [List.take_succ_cons, List.take_zero, List.drop_succ_cons, List.drop_zero, putAll, Act.put, List.setIfInBounds_toArray, List.set_cons_succ, List.set_cons_zero]
        simp only [facts, is, Nat.zero_add, Nat.reduceAdd] at hf
        have f15 := hf.2.2.2.2.2.2.2.2.2.2.2.2.2.2.2.1
        have f14 := hf.2.2.2.2.2.2.2.2.2.2.2.2.2.2.1
        simp only [Nat.zero_add, Nat.reduceAdd, hf]
        clear hf
        obtain ⟨A5, c5, e5, hQ5⟩ := f14
        obtain ⟨hc51, hc52⟩ := own_bd hQ5
        rw [e5]
        have H5 := Lib.hid (And.intro f15 hQ5)
        clear f15 hQ5 e5
        go_wp2
        obtain ⟨hB0, hB1, hE⟩ := H1.out
        have hBA := ((hB1.set_ 0 (.int .i64 k) (by simp)).set_ 1 (.slice A5 n c5) (by simp)).ext ((Ext.refl _).plus_ x)
        simp only [List.set_cons_zero, List.set_cons_succ] at hBA
        have hr0 := hBA.cell 0 (by simp)
        have hr1 := hBA.cell 1 (by simp)
        simp only [List.getElem?_cons_zero, List.getElem?_cons_succ] at hr0 hr1
        obtain ⟨f15, hQ5⟩ := H5.out
        have hOA := own_setCell (own_setCell f15 (p := ⟨N + 1, 0, none⟩) (show N + 1 < N + 2 by omega) (.int .i64 k)) (p := ⟨N + 1, 1, none⟩) (show N + 1 < N + 2 by omega) (.slice A5 n c5)
        have hQA := own_setCell (own_setCell hQ5 (p := ⟨N + 1, 0, none⟩) (show N + 1 < N + 2 by omega) (.int .i64 k)) (p := ⟨N + 1, 1, none⟩) (show N + 1 < N + 2 by omega) (.slice A5 n c5)
        have hEA := ((hE.setCell (p := ⟨N + 1, 0, none⟩) b1 (.int .i64 k)).setCell (p := ⟨N + 1, 1, none⟩) b1 (.slice A5 n c5)).plus_ x
        unfold isOwn at hOA
        have hs1 : ((w1.setCell ⟨N + 1, 0, none⟩ (.int .i64 k)).cell? ⟨N + 1, 1, none⟩).isSome = true := by rw [World.cell?_setCell_other _ _ _ _ (by simp), hc11]; rfl
        rw [World.setCell_plus _ _ _ (by rw [hc10]; rfl), World.setCell_plus _ _ _ hs1] at hOA hQA
        refine bodyPost_ret (v := (.tuple #[vs 15, .agg #[.int .i64 k, .slice A5 n c5]])) (by simp [results, Try.results43, go_sem, hr0, hr1]) rfl ?_
        have hl1 := HLL.out.1
        have hl2 := HLL.out.2
        refine ⟨_, _, rfl, ?_, ?_, hEA⟩
        · rw [← hl1]; exact BS.of_own hOA
        · rw [← hl2]; exact ⟨A5, n, c5, rfl, own_row hQA, hc51, hc52, own_nil hQA⟩
    · rw [if_neg (by omega)] at hqf
      rcases Int.lt_or_le (n : Int) m with h1 | h1
      · rw [if_neg (by omega)] at hqf
        obtain rfl : n = q := by omega
        clear hqf
        have hqc0 : (0 : Int) ≤ (n : Int) := by omega
        have hqc1 : (n : Int) ≤ (c : Int) := by omega
        have hqn1 : (n : Int) ≤ (n : Int) := by omega
        go_enter Try.func43, Try.ntmps43
        go_wp2_with fail
        refine (refValid_any k A n c _ (by omega)).mono ?_
        rw [HV.out]
        rintro e w1 ⟨rfl, hE1⟩
        obtain ⟨N, hN⟩ : ∃ N, N = w.heap.size := ⟨_, rfl⟩
        have hB0 : Box w.heap.size [.int .i64 k, .slice A n c] N w1 := by rw [hN]; exact ((Box.new w #[.int .i64 k, .slice A n c] 28 _ (Nat.le_refl _) rfl).ext ((Ext.refl _).alloc _)).ext hE1
        have hB1 : Box w.heap.size [.int .i64 0, .slice none 0 0] (N + 1) w1 := by
          have := (Box.new (N := w.heap.size) (w.alloc (.cells #[.int .i64 k, .slice A n c] 28)) #[.int .i64 0, .slice none 0 0] 28 _ (by simp) rfl).ext hE1
          rw [hN]; simpa using this
        have hE : Ext w w1 := (((Ext.refl w).alloc _).alloc _).trans hE1
        have HN := Lib.hid hN
        rw [← hN]
        clear hE1 hN
        have hNs := hB0.base
        have b1 := hB1.base
        have hf15 := hB1.free
        have hl05 := hB0.lt
        have hl15 := hB1.lt
        have hc00 := hB0.cell 0 (by simp)
        have hc01 := hB0.cell 1 (by simp)
        have hc10 := hB1.cell 0 (by simp)
        have hc11 := hB1.cell 1 (by simp)
        simp only [List.getElem?_cons_zero, List.getElem?_cons_succ] at hc00 hc01 hc10 hc11
        have H1 := Lib.hid (And.intro hB0 (And.intro hB1 hE))
        clear hB0 hB1 hE
        have hr0 := (HR.out.lift H1.out.2.2).take n hqn
        have hr1 := (HR.out.lift H1.out.2.2).from_ hqn hc
        try simp only [Nat.sub_zero, Nat.sub_self] at hr1
        rw [show (bytes l).take n = bytes (l.take n) by simp] at hr0
        rw [show (bytes l).drop n = bytes (l.drop n) by simp] at hr1
        obtain ⟨l1, hl1⟩ : ∃ l1, l1 = l.take n := ⟨_, rfl⟩
        obtain ⟨l2, hl2⟩ : ∃ l2, l2 = l.drop n := ⟨_, rfl⟩
        rw [← hl1] at hr0
        rw [← hl2] at hr1
        have HLL := Lib.hid (And.intro hl1 hl2)
        clear hl1 hl2
        have HAPP1 := Lib.hid (fun (W : World) (v : Value) (hX : Ext w1 W) (hO : isOwn0 (N + 2) v W) (ty : TypeId) => app_lit W (N + 2) n v A c l1 i0 hi hz0 hz1 hz2 hO (hr0.lift hX) (by omega) (by have := hX.size; omega) ty)
        have HAPP2 := Lib.hid (fun (W : World) (v : Value) (hX : Ext w1 W) (hO : isOwn0 (N + 2) v W) (ty : TypeId) => app_lit W (N + 2) 0 v (fromAddr A c n) (c - n) l2 i0 hi hz0 hz1 hz2 hO (hr1.lift hX) (by omega) (by have := hX.size; omega) ty)
        clear hr0 hr1
        go_wp2_with fail
        apply wp_region_ext 16 [isOwn0 (N + 2), is _, is _, is _, is _, isOwn (N + 2) n (bytes l1), is _, is _, isOwn0 (N + 2), is _, is _, is _, is (.slice (fromAddr A c n) 0 (c - n)), isOwn (N + 2) 0 (bytes l2), isQu (N + 2) k 0 (bytes l2), isOwn (N + 2) n (bytes l1)] (by kernel_rfl) (by kernel_rfl) rfl
        case hops =>
          simp only [List.take_succ_cons, List.take_zero]
          refine ⟨?_, ?_, ?_, ?_, ?_, ?_, ?_, ?_, ?_, ?_, ?_, ?_, ?_, ?_, ?_, ?_, trivial⟩
          all_goals
            intro vs x hd
            simp only [putAll, Act.put, List.setIfInBounds_toArray, List.set_cons_succ, List.set_cons_zero, Nat.zero_add, Nat.reduceAdd]
            simp [depFacts, is, isRow, isRowN, isBox, dataE] at hd
            try simp only [World.plus_plus] at hd
            simp only [Region.wanted, if_true]
            try simp [yielded, hd]
          refine Lock.out ?_
          rotate_left 5
          refine Lock.out ?_
          rotate_left 3
          refine Lock.out ?_
          rotate_left 4
          refine Lock.out ?_
          rotate_left 1
          refine Lock.out ?_
          rotate_left 1
          refine Lock.out ?_
          rotate_left 1
          refine Lock.out ?_
          rotate_left 1
          all_goals
            try (
            with_reducible show comes _ _ _ _ _
            simp only [comes]
            try simp [yielded, hd, comes]
            go_simp
            try go_bits
            first
              | exact ⟨Ext.refl _, rfl⟩
              | exact rfl
              | exact ⟨(Ext.refl _).alloc _, _, rfl, Cells.new _ _ _ _ rfl⟩
              | exact ⟨(Ext.refl _).alloc _, _, rfl, Box.new _ _ _ _ (by simp [World.le_plus]) rfl⟩
            )
          · refine ⟨?_, trivial⟩
            (simp only [comes]; go_simp; exact ⟨(Ext.refl _).alloc _, _, rfl, own_empty (w1.plus x) (N + 2) _ (by have := World.size_plus (w := w1) x; omega)⟩)
          · refine ⟨?_, trivial⟩
            exact comes_app (.tmp 16) (.tmp 20) 26 rfl (vs 0) (.slice A n c) rfl rfl (HAPP1.out _ (vs 0) ((Ext.refl w1).plus_ x) hd.1 _)
          · refine ⟨?_, trivial⟩
            (simp only [comes]; go_simp; exact ⟨(Ext.refl _).alloc _, _, rfl, own_empty (w1.plus x) (N + 2) _ (by have := World.size_plus (w := w1) x; omega)⟩)
          · refine ⟨?_, trivial⟩
            exact comes_from (.tmp 26) (.tmp 27) 26 5 i0 rfl Try.underlying26 hi hz1 A n c n rfl rfl hqn ⟨Ext.refl _, by simp [is]⟩
          · refine ⟨?_, trivial⟩
            exact comes_app (.tmp 24) (.tmp 28) 26 rfl (vs 8) (.slice (fromAddr A c n) 0 (c - n)) rfl rfl (HAPP2.out _ (vs 8) ((Ext.refl w1).plus_ x) hd.1 _)
          · refine ⟨?_, trivial⟩
            (have h9 := hd.2; obtain ⟨A5, c5, e, _, _⟩ := own_form h9; rw [e] at h9 ⊢; simp only [comes]; go_simp; exact ⟨Ext.refl _, A5, c5, rfl, h9⟩)
          · refine ⟨?_, trivial⟩
            (simp only [comes]; go_simp; first | exact Ext.refl _ | exact ⟨Ext.refl _, hd⟩)
        case hst => exact ⟨(by apply isOwn0.st), (by apply is.st), (by apply is.st), (by apply is.st), (by apply is.st), (by apply isOwn.st), (by apply is.st), (by apply is.st), (by apply isOwn0.st), (by apply is.st), (by apply is.st), (by apply is.st), (by apply is.st), (by apply isOwn.st), (by apply isQu.st), (by apply isOwn.st), trivial⟩
        case hfin =>
          intro vs x hf
          try simp only [World.plus_plus] at hf ⊢
          simp only [List.take_succ_cons, List.take_zero, List.drop_succ_cons, List.drop_zero, putAll, Act.put, List.setIfInBounds_toArray, List.set_cons_succ, List.set_cons_zero]
          simp only [facts, is, Nat.zero_add, Nat.reduceAdd] at hf
          have f15 := hf.2.2.2.2.2.2.2.2.2.2.2.2.2.2.2.1
          have f14 := hf.2.2.2.2.2.2.2.2.2.2.2.2.2.2.1
          simp only [Nat.zero_add, Nat.reduceAdd, hf]
          clear hf
          obtain ⟨A5, c5, e5, hQ5⟩ := f14
          obtain ⟨hc51, hc52⟩ := own_bd hQ5
          rw [e5]
          have H5 := Lib.hid (And.intro f15 hQ5)
          clear f15 hQ5 e5
          go_wp2
          obtain ⟨hB0, hB1, hE⟩ := H1.out
          have hBA := ((hB1.set_ 0 (.int .i64 k) (by simp)).set_ 1 (.slice A5 0 c5) (by simp)).ext ((Ext.refl _).plus_ x)
          simp only [List.set_cons_zero, List.set_cons_succ] at hBA
          have hr0 := hBA.cell 0 (by simp)
          have hr1 := hBA.cell 1 (by simp)
          simp only [List.getElem?_cons_zero, List.getElem?_cons_succ] at hr0 hr1
          obtain ⟨f15, hQ5⟩ := H5.out
          have hOA := own_setCell (own_setCell f15 (p := ⟨N + 1, 0, none⟩) (show N + 1 < N + 2 by omega) (.int .i64 k)) (p := ⟨N + 1, 1, none⟩) (show N + 1 < N + 2 by omega) (.slice A5 0 c5)
          have hQA := own_setCell (own_setCell hQ5 (p := ⟨N + 1, 0, none⟩) (show N + 1 < N + 2 by omega) (.int .i64 k)) (p := ⟨N + 1, 1, none⟩) (show N + 1 < N + 2 by omega) (.slice A5 0 c5)
          have hEA := ((hE.setCell (p := ⟨N + 1, 0, none⟩) b1 (.int .i64 k)).setCell (p := ⟨N + 1, 1, none⟩) b1 (.slice A5 0 c5)).plus_ x
          unfold isOwn at hOA
          have hs1 : ((w1.setCell ⟨N + 1, 0, none⟩ (.int .i64 k)).cell? ⟨N + 1, 1, none⟩).isSome = true := by rw [World.cell?_setCell_other _ _ _ _ (by simp), hc11]; rfl
          rw [World.setCell_plus _ _ _ (by rw [hc10]; rfl), World.setCell_plus _ _ _ hs1] at hOA hQA
          refine bodyPost_ret (v := (.tuple #[vs 15, .agg #[.int .i64 k, .slice A5 0 c5]])) (by simp [results, Try.results43, go_sem, hr0, hr1]) rfl ?_
          have hl1 := HLL.out.1
          have hl2 := HLL.out.2
          refine ⟨_, _, rfl, ?_, ?_, hEA⟩
          · rw [← hl1]; exact BS.of_own hOA
          · rw [← hl2]; exact ⟨A5, 0, c5, rfl, own_row hQA, hc51, hc52, own_nil hQA⟩
      · rw [if_pos h1] at hqf
        obtain rfl : m = (q : Int) := hqf.symm
        clear hqf
        have hqc0 : (0 : Int) ≤ (q : Int) := by omega
        have hqc1 : (q : Int) ≤ (c : Int) := by omega
        have hqn1 : (q : Int) ≤ (n : Int) := by omega
        go_enter Try.func43, Try.ntmps43
        go_wp2_with fail
        refine (refValid_any k A n c _ (by omega)).mono ?_
        rw [HV.out]
        rintro e w1 ⟨rfl, hE1⟩
        obtain ⟨N, hN⟩ : ∃ N, N = w.heap.size := ⟨_, rfl⟩
        have hB0 : Box w.heap.size [.int .i64 k, .slice A n c] N w1 := by rw [hN]; exact ((Box.new w #[.int .i64 k, .slice A n c] 28 _ (Nat.le_refl _) rfl).ext ((Ext.refl _).alloc _)).ext hE1
        have hB1 : Box w.heap.size [.int .i64 0, .slice none 0 0] (N + 1) w1 := by
          have := (Box.new (N := w.heap.size) (w.alloc (.cells #[.int .i64 k, .slice A n c] 28)) #[.int .i64 0, .slice none 0 0] 28 _ (by simp) rfl).ext hE1
          rw [hN]; simpa using this
        have hE : Ext w w1 := (((Ext.refl w).alloc _).alloc _).trans hE1
        have HN := Lib.hid hN
        rw [← hN]
        clear hE1 hN
        have hNs := hB0.base
        have b1 := hB1.base
        have hf15 := hB1.free
        have hl05 := hB0.lt
        have hl15 := hB1.lt
        have hc00 := hB0.cell 0 (by simp)
        have hc01 := hB0.cell 1 (by simp)
        have hc10 := hB1.cell 0 (by simp)
        have hc11 := hB1.cell 1 (by simp)
        simp only [List.getElem?_cons_zero, List.getElem?_cons_succ] at hc00 hc01 hc10 hc11
        have H1 := Lib.hid (And.intro hB0 (And.intro hB1 hE))
        clear hB0 hB1 hE
        have hr0 := (HR.out.lift H1.out.2.2).take q hqn
        have hr1 := (HR.out.lift H1.out.2.2).from_ hqn hc
        try simp only [Nat.sub_zero, Nat.sub_self] at hr1
        rw [show (bytes l).take q = bytes (l.take q) by simp] at hr0
        rw [show (bytes l).drop q = bytes (l.drop q) by simp] at hr1
        obtain ⟨l1, hl1⟩ : ∃ l1, l1 = l.take q := ⟨_, rfl⟩
        obtain ⟨l2, hl2⟩ : ∃ l2, l2 = l.drop q := ⟨_, rfl⟩
        rw [← hl1] at hr0
        rw [← hl2] at hr1
        have HLL := Lib.hid (And.intro hl1 hl2)
        clear hl1 hl2
        have HAPP1 := Lib.hid (fun (W : World) (v : Value) (hX : Ext w1 W) (hO : isOwn0 (N + 2) v W) (ty : TypeId) => app_lit W (N + 2) q v A c l1 i0 hi hz0 hz1 hz2 hO (hr0.lift hX) (by omega) (by have := hX.size; omega) ty)
        have HAPP2 := Lib.hid (fun (W : World) (v : Value) (hX : Ext w1 W) (hO : isOwn0 (N + 2) v W) (ty : TypeId) => app_lit W (N + 2) (n - q) v (fromAddr A c q) (c - q) l2 i0 hi hz0 hz1 hz2 hO (hr1.lift hX) (by omega) (by have := hX.size; omega) ty)
        clear hr0 hr1
        go_wp2_with fail
        apply wp_region_ext 16 [isOwn0 (N + 2), is _, is _, is _, is _, isOwn (N + 2) q (bytes l1), is _, is _, isOwn0 (N + 2), is _, is _, is _, is (.slice (fromAddr A c q) (n - q) (c - q)), isOwn (N + 2) (n - q) (bytes l2), isQu (N + 2) k (n - q) (bytes l2), isOwn (N + 2) q (bytes l1)] (by kernel_rfl) (by kernel_rfl) rfl
        case hops =>
          simp only [List.take_succ_cons, List.take_zero]
          refine ⟨?_, ?_, ?_, ?_, ?_, ?_, ?_, ?_, ?_, ?_, ?_, ?_, ?_, ?_, ?_, ?_, trivial⟩
          all_goals
            intro vs x hd
            simp only [putAll, Act.put, List.setIfInBounds_toArray, List.set_cons_succ, List.set_cons_zero, Nat.zero_add, Nat.reduceAdd]
            simp [depFacts, is, isRow, isRowN, isBox, dataE] at hd
            try simp only [World.plus_plus] at hd
            simp only [Region.wanted, if_true]
            try simp [yielded, hd]
          refine Lock.out ?_
          rotate_left 5
          refine Lock.out ?_
          rotate_left 3
          refine Lock.out ?_
          rotate_left 4
          refine Lock.out ?_
          rotate_left 1
          refine Lock.out ?_
          rotate_left 1
          refine Lock.out ?_
          rotate_left 1
          refine Lock.out ?_
          rotate_left 1
          all_goals
            try (
            with_reducible show comes _ _ _ _ _
            simp only [comes]
            try simp [yielded, hd, comes]
            go_simp
            try go_bits
            first
              | exact ⟨Ext.refl _, rfl⟩
              | exact rfl
              | exact ⟨(Ext.refl _).alloc _, _, rfl, Cells.new _ _ _ _ rfl⟩
              | exact ⟨(Ext.refl _).alloc _, _, rfl, Box.new _ _ _ _ (by simp [World.le_plus]) rfl⟩
            )
          · refine ⟨?_, trivial⟩
            (simp only [comes]; go_simp; exact ⟨(Ext.refl _).alloc _, _, rfl, own_empty (w1.plus x) (N + 2) _ (by have := World.size_plus (w := w1) x; omega)⟩)
          · refine ⟨?_, trivial⟩
            exact comes_app (.tmp 16) (.tmp 20) 26 rfl (vs 0) (.slice A q c) rfl rfl (HAPP1.out _ (vs 0) ((Ext.refl w1).plus_ x) hd.1 _)
          · refine ⟨?_, trivial⟩
            (simp only [comes]; go_simp; exact ⟨(Ext.refl _).alloc _, _, rfl, own_empty (w1.plus x) (N + 2) _ (by have := World.size_plus (w := w1) x; omega)⟩)
          · refine ⟨?_, trivial⟩
            exact comes_from (.tmp 26) (.tmp 27) 26 5 i0 rfl Try.underlying26 hi hz1 A n c q rfl rfl hqn ⟨Ext.refl _, by simp [is]⟩
          · refine ⟨?_, trivial⟩
            exact comes_app (.tmp 24) (.tmp 28) 26 rfl (vs 8) (.slice (fromAddr A c q) (n - q) (c - q)) rfl rfl (HAPP2.out _ (vs 8) ((Ext.refl w1).plus_ x) hd.1 _)
          · refine ⟨?_, trivial⟩
            (have h9 := hd.2; obtain ⟨A5, c5, e, _, _⟩ := own_form h9; rw [e] at h9 ⊢; simp only [comes]; go_simp; exact ⟨Ext.refl _, A5, c5, rfl, h9⟩)
          · refine ⟨?_, trivial⟩
            (simp only [comes]; go_simp; first | exact Ext.refl _ | exact ⟨Ext.refl _, hd⟩)
        case hst => exact ⟨(by apply isOwn0.st), (by apply is.st), (by apply is.st), (by apply is.st), (by apply is.st), (by apply isOwn.st), (by apply is.st), (by apply is.st), (by apply isOwn0.st), (by apply is.st), (by apply is.st), (by apply is.st), (by apply is.st), (by apply isOwn.st), (by apply isQu.st), (by apply isOwn.st), trivial⟩
        case hfin =>
          intro vs x hf
          try simp only [World.plus_plus] at hf ⊢
          simp only [List.take_succ_cons, List.take_zero, List.drop_succ_cons, List.drop_zero, putAll, Act.put, List.setIfInBounds_toArray, List.set_cons_succ, List.set_cons_zero]
          simp only [facts, is, Nat.zero_add, Nat.reduceAdd] at hf
          have f15 := hf.2.2.2.2.2.2.2.2.2.2.2.2.2.2.2.1
          have f14 := hf.2.2.2.2.2.2.2.2.2.2.2.2.2.2.1
          simp only [Nat.zero_add, Nat.reduceAdd, hf]
          clear hf
          obtain ⟨A5, c5, e5, hQ5⟩ := f14
          obtain ⟨hc51, hc52⟩ := own_bd hQ5
          rw [e5]
          have H5 := Lib.hid (And.intro f15 hQ5)
          clear f15 hQ5 e5
          go_wp2
          obtain ⟨hB0, hB1, hE⟩ := H1.out
          have hBA := ((hB1.set_ 0 (.int .i64 k) (by simp)).set_ 1 (.slice A5 (n - q) c5) (by simp)).ext ((Ext.refl _).plus_ x)
          simp only [List.set_cons_zero, List.set_cons_succ] at hBA
          have hr0 := hBA.cell 0 (by simp)
          have hr1 := hBA.cell 1 (by simp)
          simp only [List.getElem?_cons_zero, List.getElem?_cons_succ] at hr0 hr1
          obtain ⟨f15, hQ5⟩ := H5.out
          have hOA := own_setCell (own_setCell f15 (p := ⟨N + 1, 0, none⟩) (show N + 1 < N + 2 by omega) (.int .i64 k)) (p := ⟨N + 1, 1, none⟩) (show N + 1 < N + 2 by omega) (.slice A5 (n - q) c5)
          have hQA := own_setCell (own_setCell hQ5 (p := ⟨N + 1, 0, none⟩) (show N + 1 < N + 2 by omega) (.int .i64 k)) (p := ⟨N + 1, 1, none⟩) (show N + 1 < N + 2 by omega) (.slice A5 (n - q) c5)
          have hEA := ((hE.setCell (p := ⟨N + 1, 0, none⟩) b1 (.int .i64 k)).setCell (p := ⟨N + 1, 1, none⟩) b1 (.slice A5 (n - q) c5)).plus_ x
          unfold isOwn at hOA
          have hs1 : ((w1.setCell ⟨N + 1, 0, none⟩ (.int .i64 k)).cell? ⟨N + 1, 1, none⟩).isSome = true := by rw [World.cell?_setCell_other _ _ _ _ (by simp), hc11]; rfl
          rw [World.setCell_plus _ _ _ (by rw [hc10]; rfl), World.setCell_plus _ _ _ hs1] at hOA hQA
          refine bodyPost_ret (v := (.tuple #[vs 15, .agg #[.int .i64 k, .slice A5 (n - q) c5]])) (by simp [results, Try.results43, go_sem, hr0, hr1]) rfl ?_
          have hl1 := HLL.out.1
          have hl2 := HLL.out.2
          refine ⟨_, _, rfl, ?_, ?_, hEA⟩
          · rw [← hl1]; exact BS.of_own hOA
          · rw [← hl2]; exact ⟨A5, (n - q), c5, rfl, own_row hQA, hc51, hc52, own_nil hQA⟩
  · have d : decide (QOK k n) = false := decide_eq_false hv
    have HZ := Lib.hid (show qfirst k n m = 0 by unfold qfirst; rw [if_neg hv])
    have HV := Lib.hid d
    clear hv d
    go_enter Try.func43, Try.ntmps43
    go_wp2_with fail
    refine (refValid_any k A n c _ (by omega)).mono ?_
    rw [HV.out]
    rintro e w1 ⟨rfl, hE1⟩
    obtain ⟨x, rfl⟩ := hE1.plus
    clear hE1
    go_wp2
    apply wp_region_ext 2 [is _, is _] (by kernel_rfl) (by kernel_rfl) rfl
    case hops =>
      simp only [List.take_succ_cons, List.take_zero]
      refine ⟨?_, ?_, trivial⟩
      all_goals
        intro vs x hd
        simp only [putAll, Act.put, List.setIfInBounds_toArray, List.set_cons_succ, List.set_cons_zero, Nat.zero_add, Nat.reduceAdd]
        simp [depFacts, is, isRow, isRowN, isBox, dataE] at hd
        try simp only [World.plus_plus] at hd
        simp only [Region.wanted, if_true, comes]
        try simp [yielded, hd, comes]
        go_simp
        try go_bits
        first
          | exact ⟨Ext.refl _, rfl⟩
          | exact rfl
          | exact ⟨(Ext.refl _).alloc _, _, rfl, Cells.new _ _ _ _ rfl⟩
          | exact ⟨(Ext.refl _).alloc _, _, rfl, Box.new _ _ _ _ (by simp [World.le_plus]) rfl⟩
    case hst => exact ⟨(by apply is.st), (by apply is.st), trivial⟩
    case hfin =>
      intro vs x hf
      try simp only [World.plus_plus] at hf ⊢
      simp only [List.take_succ_cons, List.take_zero, List.drop_succ_cons, List.drop_zero, putAll, Act.put, List.setIfInBounds_toArray, List.set_cons_succ, List.set_cons_zero]
      simp only [facts, is, Nat.zero_add, Nat.reduceAdd] at hf
      simp only [Nat.zero_add, Nat.reduceAdd, hf]
      clear hf
      go_wp2
      refine bodyPost_ret (v := (.tuple #[.slice none 0 0, qu k A n c])) (by simp [results, Try.results43, go_sem]) rfl ?_
      rw [HZ.out]
      refine ⟨_, _, rfl, ⟨none, 0, 0, rfl, by simpa using Row.nil, by omega, by omega, fun _ => ⟨rfl, rfl⟩⟩, ⟨A, n, c, rfl, by simpa using HR.out.lift (by repeat (first | exact Ext.refl _ | assumption | apply Ext.plus_ | apply Ext.alloc | apply Ext.drew)), hc, hcm, HA.out⟩, (by repeat (first | exact Ext.refl _ | assumption | apply Ext.plus_ | apply Ext.alloc | apply Ext.drew))⟩
end Go.Proofs.Ytphbmibgnnobcaa
