/- Ports: Room, Grant, Put, Drained. -/
import Derived.Test.YtphbmibgnnobcaaPort3
set_option linter.unusedVariables false
namespace Go.Proofs.Ytphbmibgnnobcaa
open Go.RowKit Go.Rg

/-- How many bytes can be put. -/
def prm (oc : Int) (m : Nat) (bu : Int) : Int := min (qroom oc m + bu) 1000000
set_option maxHeartbeats 2000000 in
theorem proom_any (id cl ic : Int) (A : Option Addr) (n c : Nat) (oc : Int) (B : Option Addr) (m d : Nat) (bu : Int) (en cg : Bool) (w : World) (hm : m ≤ 9223372036854775807) (hb2 : 0 ≤ bu) (hb3 : bu ≤ 1000000) :
    Calls Try.prog 19 #[pv id cl ic A n c oc B m d bu en cg] w fun e w' => e = .returned (.int .i64 (prm oc m bu)) ∧ Ext w w' := by
  have C := Lib.hid (fun w => room_any oc B m d w hm)
  obtain ⟨h1, h2⟩ := qroom_bd oc m
  unfold prm
  obtain ⟨r, hr⟩ : ∃ r, r = qroom oc m := ⟨_, rfl⟩
  rw [← hr] at C h1 h2 ⊢
  clear hr
  by_cases hle : r + bu ≤ 1000000
  · have HM := Lib.hid (show min (r + bu) 1000000 = r + bu by omega)
    go_enter Try.func19, Try.ntmps19
    go_wp2_with fail
    apply wp_region_ext 7 [is _, is _, is (.int .i64 r), is _, is _, is _, is _] (by kernel_rfl) (by kernel_rfl) rfl
    case hops =>
      simp only [List.take_succ_cons, List.take_zero]
      refine ⟨?_, ?_, ?_, ?_, ?_, ?_, ?_, trivial⟩
      all_goals
        intro vs x hd
        simp only [putAll, Act.put, List.setIfInBounds_toArray, List.set_cons_succ, List.set_cons_zero, Nat.zero_add, Nat.reduceAdd]
        simp [depFacts, is, isRow, isRowN, isBox, dataE] at hd
        try simp only [World.plus_plus] at hd
        simp only [Region.wanted, if_true, comes]
        try simp [yielded, hd, comes]
        go_simp
        try go_bits
        first
          | exact ⟨Ext.refl _, rfl⟩
          | exact rfl
          | exact ⟨(Ext.refl _).alloc _, _, rfl, Cells.new _ _ _ _ rfl⟩
          | exact ⟨(Ext.refl _).alloc _, _, rfl, Box.new _ _ _ _ (by simp [World.le_plus]) rfl⟩
          | (refine (C.out _).mono ?_; rintro e w' ⟨rfl, hE⟩; exact ⟨_, rfl, hE, rfl⟩)
    case hst => exact ⟨(by apply is.st), (by apply is.st), (by apply is.st), (by apply is.st), (by apply is.st), (by apply is.st), (by apply is.st), trivial⟩
    case hfin =>
      intro vs x hf
      try simp only [World.plus_plus] at hf ⊢
      simp only [List.take_succ_cons, List.take_zero, List.drop_succ_cons, List.drop_zero, putAll, Act.put, List.setIfInBounds_toArray, List.set_cons_succ, List.set_cons_zero]
      simp only [facts, is, Nat.zero_add, Nat.reduceAdd] at hf
      simp only [Nat.zero_add, Nat.reduceAdd, hf]
      clear hf
      go_wp2
      go_ret
      rw [HM.out]
      exact ⟨rfl, (by repeat (first | exact Ext.refl _ | assumption | apply Ext.plus_ | apply Ext.alloc | apply Ext.drew))⟩
  · have HM := Lib.hid (show min (r + bu) 1000000 = 1000000 by omega)
    go_enter Try.func19, Try.ntmps19
    go_wp2_with fail
    apply wp_region_ext 7 [is _, is _, is (.int .i64 r), is _, is _, is _, is _] (by kernel_rfl) (by kernel_rfl) rfl
    case hops =>
      simp only [List.take_succ_cons, List.take_zero]
      refine ⟨?_, ?_, ?_, ?_, ?_, ?_, ?_, trivial⟩
      all_goals
        intro vs x hd
        simp only [putAll, Act.put, List.setIfInBounds_toArray, List.set_cons_succ, List.set_cons_zero, Nat.zero_add, Nat.reduceAdd]
        simp [depFacts, is, isRow, isRowN, isBox, dataE] at hd
        try simp only [World.plus_plus] at hd
        simp only [Region.wanted, if_true, comes]
        try simp [yielded, hd, comes]
        go_simp
        try go_bits
        first
          | exact ⟨Ext.refl _, rfl⟩
          | exact rfl
          | exact ⟨(Ext.refl _).alloc _, _, rfl, Cells.new _ _ _ _ rfl⟩
          | exact ⟨(Ext.refl _).alloc _, _, rfl, Box.new _ _ _ _ (by simp [World.le_plus]) rfl⟩
          | (refine (C.out _).mono ?_; rintro e w' ⟨rfl, hE⟩; exact ⟨_, rfl, hE, rfl⟩)
    case hst => exact ⟨(by apply is.st), (by apply is.st), (by apply is.st), (by apply is.st), (by apply is.st), (by apply is.st), (by apply is.st), trivial⟩
    case hfin =>
      intro vs x hf
      try simp only [World.plus_plus] at hf ⊢
      simp only [List.take_succ_cons, List.take_zero, List.drop_succ_cons, List.drop_zero, putAll, Act.put, List.setIfInBounds_toArray, List.set_cons_succ, List.set_cons_zero]
      simp only [facts, is, Nat.zero_add, Nat.reduceAdd] at hf
      simp only [Nat.zero_add, Nat.reduceAdd, hf]
      clear hf
      go_wp2
      go_ret
      rw [HM.out]
      exact ⟨rfl, (by repeat (first | exact Ext.refl _ | assumption | apply Ext.plus_ | apply Ext.alloc | apply Ext.drew))⟩
set_option maxHeartbeats 2000000 in
theorem refProom_any (id cl ic : Int) (A : Option Addr) (n c : Nat) (oc : Int) (B : Option Addr) (m d : Nat) (bu : Int) (en cg : Bool) (w : World) (hm : m ≤ 9223372036854775807) (hb2 : 0 ≤ bu) (hb3 : bu ≤ 1000000) :
    Calls Try.prog 29 #[pv id cl ic A n c oc B m d bu en cg] w fun e w' => e = .returned (.int .i64 (prm oc m bu)) ∧ Ext w w' := by
  have C := Lib.hid (fun w => refRoom_any oc B m d w hm)
  obtain ⟨h1, h2⟩ := qroom_bd oc m
  unfold prm
  obtain ⟨r, hr⟩ : ∃ r, r = qroom oc m := ⟨_, rfl⟩
  rw [← hr] at C h1 h2 ⊢
  clear hr
  by_cases hle : r + bu ≤ 1000000
  · have HM := Lib.hid (show min (r + bu) 1000000 = r + bu by omega)
    go_enter Try.func29, Try.ntmps29
    go_wp2_with fail
    apply wp_region_ext 7 [is _, is _, is (.int .i64 r), is _, is _, is _, is _] (by kernel_rfl) (by kernel_rfl) rfl
    case hops =>
      simp only [List.take_succ_cons, List.take_zero]
      refine ⟨?_, ?_, ?_, ?_, ?_, ?_, ?_, trivial⟩
      all_goals
        intro vs x hd
        simp only [putAll, Act.put, List.setIfInBounds_toArray, List.set_cons_succ, List.set_cons_zero, Nat.zero_add, Nat.reduceAdd]
        simp [depFacts, is, isRow, isRowN, isBox, dataE] at hd
        try simp only [World.plus_plus] at hd
        simp only [Region.wanted, if_true, comes]
        try simp [yielded, hd, comes]
        go_simp
        try go_bits
        first
          | exact ⟨Ext.refl _, rfl⟩
          | exact rfl
          | exact ⟨(Ext.refl _).alloc _, _, rfl, Cells.new _ _ _ _ rfl⟩
          | exact ⟨(Ext.refl _).alloc _, _, rfl, Box.new _ _ _ _ (by simp [World.le_plus]) rfl⟩
          | (refine (C.out _).mono ?_; rintro e w' ⟨rfl, hE⟩; exact ⟨_, rfl, hE, rfl⟩)
    case hst => exact ⟨(by apply is.st), (by apply is.st), (by apply is.st), (by apply is.st), (by apply is.st), (by apply is.st), (by apply is.st), trivial⟩
    case hfin =>
      intro vs x hf
      try simp only [World.plus_plus] at hf ⊢
      simp only [List.take_succ_cons, List.take_zero, List.drop_succ_cons, List.drop_zero, putAll, Act.put, List.setIfInBounds_toArray, List.set_cons_succ, List.set_cons_zero]
      simp only [facts, is, Nat.zero_add, Nat.reduceAdd] at hf
      simp only [Nat.zero_add, Nat.reduceAdd, hf]
      clear hf
      go_wp2
      go_ret
      rw [HM.out]
      exact ⟨rfl, (by repeat (first | exact Ext.refl _ | assumption | apply Ext.plus_ | apply Ext.alloc | apply Ext.drew))⟩
  · have HM := Lib.hid (show min (r + bu) 1000000 = 1000000 by omega)
    go_enter Try.func29, Try.ntmps29
    go_wp2_with fail
    apply wp_region_ext 7 [is _, is _, is (.int .i64 r), is _, is _, is _, is _] (by kernel_rfl) (by kernel_rfl) rfl
    case hops =>
      simp only [List.take_succ_cons, List.take_zero]
      refine ⟨?_, ?_, ?_, ?_, ?_, ?_, ?_, trivial⟩
      all_goals
        intro vs x hd
        simp only [putAll, Act.put, List.setIfInBounds_toArray, List.set_cons_succ, List.set_cons_zero, Nat.zero_add, Nat.reduceAdd]
        simp [depFacts, is, isRow, isRowN, isBox, dataE] at hd
        try simp only [World.plus_plus] at hd
        simp only [Region.wanted, if_true, comes]
        try simp [yielded, hd, comes]
        go_simp
        try go_bits
        first
          | exact ⟨Ext.refl _, rfl⟩
          | exact rfl
          | exact ⟨(Ext.refl _).alloc _, _, rfl, Cells.new _ _ _ _ rfl⟩
          | exact ⟨(Ext.refl _).alloc _, _, rfl, Box.new _ _ _ _ (by simp [World.le_plus]) rfl⟩
          | (refine (C.out _).mono ?_; rintro e w' ⟨rfl, hE⟩; exact ⟨_, rfl, hE, rfl⟩)
    case hst => exact ⟨(by apply is.st), (by apply is.st), (by apply is.st), (by apply is.st), (by apply is.st), (by apply is.st), (by apply is.st), trivial⟩
    case hfin =>
      intro vs x hf
      try simp only [World.plus_plus] at hf ⊢
      simp only [List.take_succ_cons, List.take_zero, List.drop_succ_cons, List.drop_zero, putAll, Act.put, List.setIfInBounds_toArray, List.set_cons_succ, List.set_cons_zero]
      simp only [facts, is, Nat.zero_add, Nat.reduceAdd] at hf
      simp only [Nat.zero_add, Nat.reduceAdd, hf]
      clear hf
      go_wp2
      go_ret
      rw [HM.out]
      exact ⟨rfl, (by repeat (first | exact Ext.refl _ | assumption | apply Ext.plus_ | apply Ext.alloc | apply Ext.drew))⟩
theorem drained_any (id cl ic : Int) (A : Option Addr) (n c : Nat) (oc : Int) (B : Option Addr) (m d : Nat) (bu : Int) (en cg : Bool) (w : World) :
    Calls Try.prog 30 #[pv id cl ic A n c oc B m d bu en cg] w fun e w' => e = .returned (.bool (decide (m = 0))) ∧ Ext w w' := by
  by_cases h : m = 0
  · subst h
    go_enter Try.func30, Try.ntmps30
    go_wp2
    go_ret
    exact ⟨rfl, (by repeat (first | exact Ext.refl _ | assumption | apply Ext.plus_ | apply Ext.alloc | apply Ext.drew))⟩
  · have h2 : decide (m = 0) = false := by simp [h]
    go_enter Try.func30, Try.ntmps30
    go_wp2
    go_ret
    rw [h2]
    refine ⟨congrArg (fun b => Ending.returned (.bool b)) (show ((m : Int) == 0) = false by simp [h]), ?_⟩
    repeat' (first | with_reducible assumption | with_reducible exact Ext.refl _ | with_reducible apply Ext.alloc | with_reducible apply Ext.drew | with_reducible apply Ext.drewN | with_reducible apply Ext.plus_ | with_reducible refine Ext.put ?_ (by omega))
set_option maxHeartbeats 2000000 in
theorem grant_any (id cl ic : Int) (A : Option Addr) (n c : Nat) (l : List Int) (oc : Int) (B : Option Addr) (m d : Nat) (k : List Int) (bu : Int) (en cg : Bool) (g : Int) (w : World)
    (hA : RB w A n c l) (hn : n ≤ 140737488355328) (hB : RB w B m d k) (hm : m ≤ 140737488355328) :
    Calls Try.prog 16 #[pv id cl ic A n c oc B m d bu en cg, .int .i64 g] w (FlPost w id cl ic l oc k (addTo 1000000 [bu, g] 2) en cg) := by
  go_enter Try.func16, Try.ntmps16
  go_wp2_with fail
  refine calls_at fun W hW => ?_
  obtain ⟨N, hN⟩ : ∃ N, N = w.heap.size := ⟨_, rfl⟩
  have hB1 : Box N [.int .i64 0, .int .i64 0, .int .i64 0, .slice none 0 0, .int .i64 0, .slice none 0 0, .int .i64 0, .bool false, .bool false] (N + 1) W := by
    rw [hW]
    repeat' (first | with_reducible assumption | ((with_reducible refine Box.fresh ?fb ?fn ?fr); (case fb => first | omega | (simp <;> omega)); (case fn => first | omega | (simp <;> omega)); (case fr => rfl)) | with_reducible apply Box.up | with_reducible apply Box.drew_ | with_reducible apply Box.drewN_ | with_reducible apply Box.plus_ | with_reducible apply Box.put | with_reducible refine Box.off ?_ (by omega))
    all_goals first | rfl | (simp; done)
  have hE : Ext w W := by
    rw [hW]
    repeat' (first | with_reducible assumption | with_reducible exact Ext.refl _ | with_reducible apply Ext.alloc | with_reducible apply Ext.drew | with_reducible apply Ext.drewN | with_reducible apply Ext.plus_ | with_reducible refine Ext.put ?_ (by omega))
  rw [← hN]
  have HN := Lib.hid hN
  clear hW hN
  refine (pflush_granted id cl ic A n c l oc B m d k bu en cg g W (hA.lift hE) hn (hB.lift hE) hm).mono ?_
  obtain ⟨b9, hb9⟩ : ∃ b9, b9 = addTo 1000000 [bu, g] 2 := ⟨_, rfl⟩
  rw [← hb9]
  rintro e X ⟨v1, v2, rfl, ⟨A1, n1, c1, B1, m1, d1, rfl, h1, h2, h3, h4⟩, ⟨A2, n2, c2, rfl, h5, h6⟩, hEX⟩
  have hNW : N + 1 < W.heap.size := hB1.lt
  have hB1X := hB1.ext hEX
  have r0 := hB1X.cell 0 (by simp)
  have r1 := hB1X.cell 1 (by simp)
  have r2 := hB1X.cell 2 (by simp)
  have r3 := hB1X.cell 3 (by simp)
  have r4 := hB1X.cell 4 (by simp)
  have r5 := hB1X.cell 5 (by simp)
  have r6 := hB1X.cell 6 (by simp)
  have r7 := hB1X.cell 7 (by simp)
  have r8 := hB1X.cell 8 (by simp)
  simp only [List.getElem?_cons_zero, List.getElem?_cons_succ] at r0 r1 r2 r3 r4 r5 r6 r7 r8
  have rF := hB1X.free
  have rL := hB1X.lt
  have rB := hB1X.base
  obtain ⟨bq, hbq⟩ : ∃ bq, bq = b9 - min b9 (k.length : Int) := ⟨_, rfl⟩
  rw [← hbq]
  have HB := Lib.hid (And.intro hb9 hbq)
  have HX := Lib.hid (And.intro (hE.trans hEX) (And.intro h1 (And.intro h2 (And.intro h3 (And.intro h4 (And.intro h5 (And.intro h6 hNW)))))))
  clear hB1 hB1X hE hEX h1 h2 h3 h4 h5 h6 hb9 hbq hNW
  go_wp2
  refine bodyPost_ret (v := (.tuple #[pv id cl ic A1 n1 c1 oc B1 m1 d1 bq en cg, .slice A2 n2 c2])) (by simp [results, Try.results16, go_sem, r0, r1, r2, r3, r4, r5, r6, r7, r8]) rfl ?_
  obtain ⟨hE, h1, h2, h3, h4, h5, h6, hNW⟩ := HX.out
  have hN := HN.out
  unfold FlPost
  rw [← HB.out.1]
  refine ⟨_, _, rfl, ⟨A1, n1, c1, B1, m1, d1, by rw [← HB.out.2], ?_, ?_, fun a ha => by have := h3 a ha; omega, fun a ha => by have := h4 a ha; omega⟩, ⟨A2, n2, c2, rfl, ?_, fun a ha => by have := h6 a ha; omega⟩, ?_⟩
  · iterate 9 (refine RB.put ?_ h3 hNW)
    exact h1
  · iterate 9 (refine RB.put ?_ h4 hNW)
    exact h2
  · iterate 9 (refine RB.put ?_ h6 hNW)
    exact h5
  · repeat' (first | with_reducible assumption | with_reducible exact Ext.refl _ | with_reducible apply Ext.alloc | with_reducible apply Ext.drew | with_reducible apply Ext.drewN | with_reducible apply Ext.plus_ | with_reducible refine Ext.put ?_ (by omega))
end Go.Proofs.Ytphbmibgnnobcaa
