/- Rollouts: Command. -/
import Derived.Test.YtidndcigloohoaaRoll0
import Derived.Test.YtidndcigloohoaaBoxes
set_option linter.unusedVariables false
namespace Go.Proofs.Ytidndcigloohoaa
open Go.RowKit Go.Rg

set_option maxHeartbeats 1000000 in
theorem cmd_1_yes (r : Ro) (w : World) (hs : r.s ∈ [0]) : Calls Try.prog 21 #[rv r, .int .i64 1] w fun e w' => e = .returned (.tuple #[rv (at_ 1), .int .i64 0]) ∧ Ext w w' := by
  have HS := Lib.hid hs
  clear hs
  have hB0 := (Box.new (N := w.heap.size) w #[.int .i64 r.s, .int .i64 r.g, .int .i64 r.h, .int .i64 r.t, .int .i64 r.e, .int .i64 r.a] 28 _ (Nat.le_refl _) rfl).ext ((Ext.refl _).alloc (.cells #[.int .i64 0, .int .i64 0, .int .i64 0, .int .i64 0, .int .i64 0, .int .i64 0] 28))
  have hB1 := Box.new (N := w.heap.size) (w.alloc (.cells #[.int .i64 r.s, .int .i64 r.g, .int .i64 r.h, .int .i64 r.t, .int .i64 r.e, .int .i64 r.a] 28)) #[.int .i64 0, .int .i64 0, .int .i64 0, .int .i64 0, .int .i64 0, .int .i64 0] 28 _ (by simp) rfl
  have hE0 := ((Ext.refl w).alloc (.cells #[.int .i64 r.s, .int .i64 r.g, .int .i64 r.h, .int .i64 r.t, .int .i64 r.e, .int .i64 r.a] 28)).alloc (.cells #[.int .i64 0, .int .i64 0, .int .i64 0, .int .i64 0, .int .i64 0, .int .i64 0] 28)
  rw [World.size_alloc] at hB1
  obtain ⟨N, hN⟩ : ∃ N, N = w.heap.size := ⟨_, rfl⟩
  rw [← hN] at hB0 hB1
  have H0 := Lib.hid (And.intro hB0 (And.intro hB1 (And.intro hE0 hN)))
  clear hB0 hB1 hE0 hN
  go_enter Try.func21, Try.ntmps21
  go_wp2_with fail
  refine (cof_1 _).mono ?_
  rintro e X ⟨b, B, rfl, hR, hc, hE⟩
  obtain ⟨hB0, hB1, hE0, hN⟩ := H0.out
  obtain ⟨N3, hN3⟩ : ∃ N3, N3 = X.heap.size := ⟨_, rfl⟩
  obtain ⟨FV, hFV⟩ : ∃ FV, FV = Value.func (Fn.func 51) #[] #[.pointer (some ⟨B, 0, none⟩)] := ⟨_, rfl⟩
  have hEX := (Ext.refl X).alloc (.cells #[.slice (some ⟨b, 0, none⟩) 1 1, Value.func (Fn.func 51) #[] #[.pointer (some ⟨B, 0, none⟩)]] 61)
  have hB3 := Box.new (N := X.heap.size) X #[.slice (some ⟨b, 0, none⟩) 1 1, Value.func (Fn.func 51) #[] #[.pointer (some ⟨B, 0, none⟩)]] 61 _ (Nat.le_refl _) rfl
  have hB03 := (hB0.ext hE).ext hEX
  have hB13 := (hB1.ext hE).ext hEX
  have hE3 := (hE0.trans hE).trans hEX
  have hc3 := hEX.cell hc
  obtain ⟨w3, hw3⟩ : ∃ w3, w3 = X.alloc (.cells #[.slice (some ⟨b, 0, none⟩) 1 1, Value.func (Fn.func 51) #[] #[.pointer (some ⟨B, 0, none⟩)]] 61) := ⟨_, rfl⟩
  rw [← hw3] at hB3 hB03 hB13 hE3 hc3 hEX
  rw [← hN3] at hB3
  have hB0X := hB0.ext hE
  have k0 := hB0X.cell 0 (by simp)
  have k1 := hB0X.cell 1 (by simp)
  have k2 := hB0X.cell 2 (by simp)
  have k3 := hB0X.cell 3 (by simp)
  have k4 := hB0X.cell 4 (by simp)
  have k5 := hB0X.cell 5 (by simp)
  simp only [List.getElem?_cons_zero, List.getElem?_cons_succ] at k0 k1 k2 k3 k4 k5
  have hr30 := cells_row (hR.ext hEX)
  clear hR
  have HN := Lib.hid hN
  rw [← hN]
  clear hN
  have H3 := Lib.hid (And.intro hw3 (And.intro hN3 (And.intro hB03 (And.intro hB13 (And.intro hE3 (And.intro hc3 (And.intro hr30 hB3)))))))
  clear hB0 hB1 hE0 hB3 hB03 hB13 hE3 hc3 hr30 hw3 hN3 hE hc hEX H0 hFV hB0X
  go_wp2_with fail
  rw [← H3.out.1, ← H3.out.2.1]
  clear k0 k1 k2 k3 k4 k5
  have hB03 := H3.out.2.2.1
  have hB13 := H3.out.2.2.2.1
  have hB3 := H3.out.2.2.2.2.2.2.2
  have k0 := hB03.cell 0 (by simp)
  have k1 := hB03.cell 1 (by simp)
  have k2 := hB03.cell 2 (by simp)
  have k3 := hB03.cell 3 (by simp)
  have k4 := hB03.cell 4 (by simp)
  have k5 := hB03.cell 5 (by simp)
  simp only [List.getElem?_cons_zero, List.getElem?_cons_succ] at k0 k1 k2 k3 k4 k5
  have m0 := hB13.cell 0 (by simp)
  have m1 := hB13.cell 1 (by simp)
  have m2 := hB13.cell 2 (by simp)
  have m3 := hB13.cell 3 (by simp)
  have m4 := hB13.cell 4 (by simp)
  have m5 := hB13.cell 5 (by simp)
  simp only [List.getElem?_cons_zero, List.getElem?_cons_succ] at m0 m1 m2 m3 m4 m5
  have hc30 := hB3.cell 0 (by simp)
  have hc31 := hB3.cell 1 (by simp)
  simp only [List.getElem?_cons_zero, List.getElem?_cons_succ] at hc30 hc31
  have hf1 := hB13.free
  clear hB03 hB13 hB3
  refine (contains_any (some ⟨b, 0, none⟩) 1 1 [0] r.s _ H3.out.2.2.2.2.2.2.1 (by omega)).mono ?_
  rw [decide_eq_true HS.out]
  rintro e w' ⟨rfl, rfl⟩
  go_wp2_with fail
  refine (into1_any r B 1 _ H3.out.2.2.2.2.2.1).mono ?_
  rintro e w5 ⟨rfl, hE5⟩
  have hB13 := H3.out.2.2.2.1
  have hE3 := H3.out.2.2.2.2.1
  have hB14 := hB13.ext hE5
  have hE6 := hE3.trans hE5
  have n0 := hB14.cell 0 (by simp)
  have n1 := hB14.cell 1 (by simp)
  have n2 := hB14.cell 2 (by simp)
  have n3 := hB14.cell 3 (by simp)
  have n4 := hB14.cell 4 (by simp)
  have n5 := hB14.cell 5 (by simp)
  simp only [List.getElem?_cons_zero, List.getElem?_cons_succ] at n0 n1 n2 n3 n4 n5
  have hf14 := hB14.free
  have hl14 := hB14.lt
  have hb14 := hB14.base
  have H6 := Lib.hid hE6
  clear hE5 hB13 hE3 hB14 hE6 k0 k1 k2 k3 k4 k5 m0 m1 m2 m3 m4 m5 hc30 hc31 hf1 H3
  go_wp2
  refine bodyPost_ret (v := (.tuple #[rv (at_ 1), .int .i64 0])) (by simp [results, Try.results21, go_sem, n0, n1, n2, n3, n4, n5]) rfl ?_
  refine ⟨rfl, ?_⟩
  have hE6 := H6.out
  have hw1 : w.heap.size ≤ N + 1 := by have := HN.out; omega
  iterate 6 (refine Ext.setCell ?_ hw1 _)
  exact hE6
set_option maxHeartbeats 1000000 in
theorem cmd_2_yes (r : Ro) (w : World) (hs : r.s ∈ [1]) : Calls Try.prog 21 #[rv r, .int .i64 2] w fun e w' => e = .returned (.tuple #[rv ⟨4, r.g, r.h, r.t, r.e, r.a⟩, .int .i64 0]) ∧ Ext w w' := by
  have HS := Lib.hid hs
  clear hs
  have hB0 := (Box.new (N := w.heap.size) w #[.int .i64 r.s, .int .i64 r.g, .int .i64 r.h, .int .i64 r.t, .int .i64 r.e, .int .i64 r.a] 28 _ (Nat.le_refl _) rfl).ext ((Ext.refl _).alloc (.cells #[.int .i64 0, .int .i64 0, .int .i64 0, .int .i64 0, .int .i64 0, .int .i64 0] 28))
  have hB1 := Box.new (N := w.heap.size) (w.alloc (.cells #[.int .i64 r.s, .int .i64 r.g, .int .i64 r.h, .int .i64 r.t, .int .i64 r.e, .int .i64 r.a] 28)) #[.int .i64 0, .int .i64 0, .int .i64 0, .int .i64 0, .int .i64 0, .int .i64 0] 28 _ (by simp) rfl
  have hE0 := ((Ext.refl w).alloc (.cells #[.int .i64 r.s, .int .i64 r.g, .int .i64 r.h, .int .i64 r.t, .int .i64 r.e, .int .i64 r.a] 28)).alloc (.cells #[.int .i64 0, .int .i64 0, .int .i64 0, .int .i64 0, .int .i64 0, .int .i64 0] 28)
  rw [World.size_alloc] at hB1
  obtain ⟨N, hN⟩ : ∃ N, N = w.heap.size := ⟨_, rfl⟩
  rw [← hN] at hB0 hB1
  have H0 := Lib.hid (And.intro hB0 (And.intro hB1 (And.intro hE0 hN)))
  clear hB0 hB1 hE0 hN
  go_enter Try.func21, Try.ntmps21
  go_wp2_with fail
  refine (cof_2 _).mono ?_
  rintro e X ⟨b, B, rfl, hR, hc, hE⟩
  obtain ⟨hB0, hB1, hE0, hN⟩ := H0.out
  obtain ⟨N3, hN3⟩ : ∃ N3, N3 = X.heap.size := ⟨_, rfl⟩
  obtain ⟨FV, hFV⟩ : ∃ FV, FV = Value.func (Fn.func 52) #[] #[.pointer (some ⟨B, 0, none⟩)] := ⟨_, rfl⟩
  have hEX := (Ext.refl X).alloc (.cells #[.slice (some ⟨b, 0, none⟩) 1 1, Value.func (Fn.func 52) #[] #[.pointer (some ⟨B, 0, none⟩)]] 61)
  have hB3 := Box.new (N := X.heap.size) X #[.slice (some ⟨b, 0, none⟩) 1 1, Value.func (Fn.func 52) #[] #[.pointer (some ⟨B, 0, none⟩)]] 61 _ (Nat.le_refl _) rfl
  have hB03 := (hB0.ext hE).ext hEX
  have hB13 := (hB1.ext hE).ext hEX
  have hE3 := (hE0.trans hE).trans hEX
  have hc3 := hEX.cell hc
  obtain ⟨w3, hw3⟩ : ∃ w3, w3 = X.alloc (.cells #[.slice (some ⟨b, 0, none⟩) 1 1, Value.func (Fn.func 52) #[] #[.pointer (some ⟨B, 0, none⟩)]] 61) := ⟨_, rfl⟩
  rw [← hw3] at hB3 hB03 hB13 hE3 hc3 hEX
  rw [← hN3] at hB3
  have hB0X := hB0.ext hE
  have k0 := hB0X.cell 0 (by simp)
  have k1 := hB0X.cell 1 (by simp)
  have k2 := hB0X.cell 2 (by simp)
  have k3 := hB0X.cell 3 (by simp)
  have k4 := hB0X.cell 4 (by simp)
  have k5 := hB0X.cell 5 (by simp)
  simp only [List.getElem?_cons_zero, List.getElem?_cons_succ] at k0 k1 k2 k3 k4 k5
  have hr30 := cells_row (hR.ext hEX)
  clear hR
  have HN := Lib.hid hN
  rw [← hN]
  clear hN
  have H3 := Lib.hid (And.intro hw3 (And.intro hN3 (And.intro hB03 (And.intro hB13 (And.intro hE3 (And.intro hc3 (And.intro hr30 hB3)))))))
  clear hB0 hB1 hE0 hB3 hB03 hB13 hE3 hc3 hr30 hw3 hN3 hE hc hEX H0 hFV hB0X
  go_wp2_with fail
  rw [← H3.out.1, ← H3.out.2.1]
  clear k0 k1 k2 k3 k4 k5
  have hB03 := H3.out.2.2.1
  have hB13 := H3.out.2.2.2.1
  have hB3 := H3.out.2.2.2.2.2.2.2
  have k0 := hB03.cell 0 (by simp)
  have k1 := hB03.cell 1 (by simp)
  have k2 := hB03.cell 2 (by simp)
  have k3 := hB03.cell 3 (by simp)
  have k4 := hB03.cell 4 (by simp)
  have k5 := hB03.cell 5 (by simp)
  simp only [List.getElem?_cons_zero, List.getElem?_cons_succ] at k0 k1 k2 k3 k4 k5
  have m0 := hB13.cell 0 (by simp)
  have m1 := hB13.cell 1 (by simp)
  have m2 := hB13.cell 2 (by simp)
  have m3 := hB13.cell 3 (by simp)
  have m4 := hB13.cell 4 (by simp)
  have m5 := hB13.cell 5 (by simp)
  simp only [List.getElem?_cons_zero, List.getElem?_cons_succ] at m0 m1 m2 m3 m4 m5
  have hc30 := hB3.cell 0 (by simp)
  have hc31 := hB3.cell 1 (by simp)
  simp only [List.getElem?_cons_zero, List.getElem?_cons_succ] at hc30 hc31
  have hf1 := hB13.free
  clear hB03 hB13 hB3
  refine (contains_any (some ⟨b, 0, none⟩) 1 1 [1] r.s _ H3.out.2.2.2.2.2.2.1 (by omega)).mono ?_
  rw [decide_eq_true HS.out]
  rintro e w' ⟨rfl, rfl⟩
  go_wp2_with fail
  refine (change1_any r B 4 _ H3.out.2.2.2.2.2.1).mono ?_
  rintro e w5 ⟨rfl, hE5⟩
  have hB13 := H3.out.2.2.2.1
  have hE3 := H3.out.2.2.2.2.1
  have hB14 := hB13.ext hE5
  have hE6 := hE3.trans hE5
  have n0 := hB14.cell 0 (by simp)
  have n1 := hB14.cell 1 (by simp)
  have n2 := hB14.cell 2 (by simp)
  have n3 := hB14.cell 3 (by simp)
  have n4 := hB14.cell 4 (by simp)
  have n5 := hB14.cell 5 (by simp)
  simp only [List.getElem?_cons_zero, List.getElem?_cons_succ] at n0 n1 n2 n3 n4 n5
  have hf14 := hB14.free
  have hl14 := hB14.lt
  have hb14 := hB14.base
  have H6 := Lib.hid hE6
  clear hE5 hB13 hE3 hB14 hE6 k0 k1 k2 k3 k4 k5 m0 m1 m2 m3 m4 m5 hc30 hc31 hf1 H3
  go_wp2
  refine bodyPost_ret (v := (.tuple #[rv ⟨4, r.g, r.h, r.t, r.e, r.a⟩, .int .i64 0])) (by simp [results, Try.results21, go_sem, n0, n1, n2, n3, n4, n5]) rfl ?_
  refine ⟨rfl, ?_⟩
  have hE6 := H6.out
  have hw1 : w.heap.size ≤ N + 1 := by have := HN.out; omega
  iterate 6 (refine Ext.setCell ?_ hw1 _)
  exact hE6
set_option maxHeartbeats 1000000 in
theorem cmd_3_yes (r : Ro) (w : World) (hs : r.s ∈ [4]) : Calls Try.prog 21 #[rv r, .int .i64 3] w fun e w' => e = .returned (.tuple #[rv ⟨1, r.g, r.h, r.t, r.e, r.a⟩, .int .i64 0]) ∧ Ext w w' := by
  have HS := Lib.hid hs
  clear hs
  have hB0 := (Box.new (N := w.heap.size) w #[.int .i64 r.s, .int .i64 r.g, .int .i64 r.h, .int .i64 r.t, .int .i64 r.e, .int .i64 r.a] 28 _ (Nat.le_refl _) rfl).ext ((Ext.refl _).alloc (.cells #[.int .i64 0, .int .i64 0, .int .i64 0, .int .i64 0, .int .i64 0, .int .i64 0] 28))
  have hB1 := Box.new (N := w.heap.size) (w.alloc (.cells #[.int .i64 r.s, .int .i64 r.g, .int .i64 r.h, .int .i64 r.t, .int .i64 r.e, .int .i64 r.a] 28)) #[.int .i64 0, .int .i64 0, .int .i64 0, .int .i64 0, .int .i64 0, .int .i64 0] 28 _ (by simp) rfl
  have hE0 := ((Ext.refl w).alloc (.cells #[.int .i64 r.s, .int .i64 r.g, .int .i64 r.h, .int .i64 r.t, .int .i64 r.e, .int .i64 r.a] 28)).alloc (.cells #[.int .i64 0, .int .i64 0, .int .i64 0, .int .i64 0, .int .i64 0, .int .i64 0] 28)
  rw [World.size_alloc] at hB1
  obtain ⟨N, hN⟩ : ∃ N, N = w.heap.size := ⟨_, rfl⟩
  rw [← hN] at hB0 hB1
  have H0 := Lib.hid (And.intro hB0 (And.intro hB1 (And.intro hE0 hN)))
  clear hB0 hB1 hE0 hN
  go_enter Try.func21, Try.ntmps21
  go_wp2_with fail
  refine (cof_3 _).mono ?_
  rintro e X ⟨b, B, rfl, hR, hc, hE⟩
  obtain ⟨hB0, hB1, hE0, hN⟩ := H0.out
  obtain ⟨N3, hN3⟩ : ∃ N3, N3 = X.heap.size := ⟨_, rfl⟩
  obtain ⟨FV, hFV⟩ : ∃ FV, FV = Value.func (Fn.func 52) #[] #[.pointer (some ⟨B, 0, none⟩)] := ⟨_, rfl⟩
  have hEX := (Ext.refl X).alloc (.cells #[.slice (some ⟨b, 0, none⟩) 1 1, Value.func (Fn.func 52) #[] #[.pointer (some ⟨B, 0, none⟩)]] 61)
  have hB3 := Box.new (N := X.heap.size) X #[.slice (some ⟨b, 0, none⟩) 1 1, Value.func (Fn.func 52) #[] #[.pointer (some ⟨B, 0, none⟩)]] 61 _ (Nat.le_refl _) rfl
  have hB03 := (hB0.ext hE).ext hEX
  have hB13 := (hB1.ext hE).ext hEX
  have hE3 := (hE0.trans hE).trans hEX
  have hc3 := hEX.cell hc
  obtain ⟨w3, hw3⟩ : ∃ w3, w3 = X.alloc (.cells #[.slice (some ⟨b, 0, none⟩) 1 1, Value.func (Fn.func 52) #[] #[.pointer (some ⟨B, 0, none⟩)]] 61) := ⟨_, rfl⟩
  rw [← hw3] at hB3 hB03 hB13 hE3 hc3 hEX
  rw [← hN3] at hB3
  have hB0X := hB0.ext hE
  have k0 := hB0X.cell 0 (by simp)
  have k1 := hB0X.cell 1 (by simp)
  have k2 := hB0X.cell 2 (by simp)
  have k3 := hB0X.cell 3 (by simp)
  have k4 := hB0X.cell 4 (by simp)
  have k5 := hB0X.cell 5 (by simp)
  simp only [List.getElem?_cons_zero, List.getElem?_cons_succ] at k0 k1 k2 k3 k4 k5
  have hr30 := cells_row (hR.ext hEX)
  clear hR
  have HN := Lib.hid hN
  rw [← hN]
  clear hN
  have H3 := Lib.hid (And.intro hw3 (And.intro hN3 (And.intro hB03 (And.intro hB13 (And.intro hE3 (And.intro hc3 (And.intro hr30 hB3)))))))
  clear hB0 hB1 hE0 hB3 hB03 hB13 hE3 hc3 hr30 hw3 hN3 hE hc hEX H0 hFV hB0X
  go_wp2_with fail
  rw [← H3.out.1, ← H3.out.2.1]
  clear k0 k1 k2 k3 k4 k5
  have hB03 := H3.out.2.2.1
  have hB13 := H3.out.2.2.2.1
  have hB3 := H3.out.2.2.2.2.2.2.2
  have k0 := hB03.cell 0 (by simp)
  have k1 := hB03.cell 1 (by simp)
  have k2 := hB03.cell 2 (by simp)
  have k3 := hB03.cell 3 (by simp)
  have k4 := hB03.cell 4 (by simp)
  have k5 := hB03.cell 5 (by simp)
  simp only [List.getElem?_cons_zero, List.getElem?_cons_succ] at k0 k1 k2 k3 k4 k5
  have m0 := hB13.cell 0 (by simp)
  have m1 := hB13.cell 1 (by simp)
  have m2 := hB13.cell 2 (by simp)
  have m3 := hB13.cell 3 (by simp)
  have m4 := hB13.cell 4 (by simp)
  have m5 := hB13.cell 5 (by simp)
  simp only [List.getElem?_cons_zero, List.getElem?_cons_succ] at m0 m1 m2 m3 m4 m5
  have hc30 := hB3.cell 0 (by simp)
  have hc31 := hB3.cell 1 (by simp)
  simp only [List.getElem?_cons_zero, List.getElem?_cons_succ] at hc30 hc31
  have hf1 := hB13.free
  clear hB03 hB13 hB3
  refine (contains_any (some ⟨b, 0, none⟩) 1 1 [4] r.s _ H3.out.2.2.2.2.2.2.1 (by omega)).mono ?_
  rw [decide_eq_true HS.out]
  rintro e w' ⟨rfl, rfl⟩
  go_wp2_with fail
  refine (change1_any r B 1 _ H3.out.2.2.2.2.2.1).mono ?_
  rintro e w5 ⟨rfl, hE5⟩
  have hB13 := H3.out.2.2.2.1
  have hE3 := H3.out.2.2.2.2.1
  have hB14 := hB13.ext hE5
  have hE6 := hE3.trans hE5
  have n0 := hB14.cell 0 (by simp)
  have n1 := hB14.cell 1 (by simp)
  have n2 := hB14.cell 2 (by simp)
  have n3 := hB14.cell 3 (by simp)
  have n4 := hB14.cell 4 (by simp)
  have n5 := hB14.cell 5 (by simp)
  simp only [List.getElem?_cons_zero, List.getElem?_cons_succ] at n0 n1 n2 n3 n4 n5
  have hf14 := hB14.free
  have hl14 := hB14.lt
  have hb14 := hB14.base
  have H6 := Lib.hid hE6
  clear hE5 hB13 hE3 hB14 hE6 k0 k1 k2 k3 k4 k5 m0 m1 m2 m3 m4 m5 hc30 hc31 hf1 H3
  go_wp2
  refine bodyPost_ret (v := (.tuple #[rv ⟨1, r.g, r.h, r.t, r.e, r.a⟩, .int .i64 0])) (by simp [results, Try.results21, go_sem, n0, n1, n2, n3, n4, n5]) rfl ?_
  refine ⟨rfl, ?_⟩
  have hE6 := H6.out
  have hw1 : w.heap.size ≤ N + 1 := by have := HN.out; omega
  iterate 6 (refine Ext.setCell ?_ hw1 _)
  exact hE6
set_option maxHeartbeats 1000000 in
theorem cmd_4_yes (r : Ro) (w : World) (hs : r.s ∈ [1, 4]) : Calls Try.prog 21 #[rv r, .int .i64 4] w fun e w' => e = .returned (.tuple #[rv (at_ 2), .int .i64 0]) ∧ Ext w w' := by
  have HS := Lib.hid hs
  clear hs
  have hB0 := (Box.new (N := w.heap.size) w #[.int .i64 r.s, .int .i64 r.g, .int .i64 r.h, .int .i64 r.t, .int .i64 r.e, .int .i64 r.a] 28 _ (Nat.le_refl _) rfl).ext ((Ext.refl _).alloc (.cells #[.int .i64 0, .int .i64 0, .int .i64 0, .int .i64 0, .int .i64 0, .int .i64 0] 28))
  have hB1 := Box.new (N := w.heap.size) (w.alloc (.cells #[.int .i64 r.s, .int .i64 r.g, .int .i64 r.h, .int .i64 r.t, .int .i64 r.e, .int .i64 r.a] 28)) #[.int .i64 0, .int .i64 0, .int .i64 0, .int .i64 0, .int .i64 0, .int .i64 0] 28 _ (by simp) rfl
  have hE0 := ((Ext.refl w).alloc (.cells #[.int .i64 r.s, .int .i64 r.g, .int .i64 r.h, .int .i64 r.t, .int .i64 r.e, .int .i64 r.a] 28)).alloc (.cells #[.int .i64 0, .int .i64 0, .int .i64 0, .int .i64 0, .int .i64 0, .int .i64 0] 28)
  rw [World.size_alloc] at hB1
  obtain ⟨N, hN⟩ : ∃ N, N = w.heap.size := ⟨_, rfl⟩
  rw [← hN] at hB0 hB1
  have H0 := Lib.hid (And.intro hB0 (And.intro hB1 (And.intro hE0 hN)))
  clear hB0 hB1 hE0 hN
  go_enter Try.func21, Try.ntmps21
  go_wp2_with fail
  refine (cof_4 _).mono ?_
  rintro e X ⟨b, B, rfl, hR, hc, hE⟩
  obtain ⟨hB0, hB1, hE0, hN⟩ := H0.out
  obtain ⟨N3, hN3⟩ : ∃ N3, N3 = X.heap.size := ⟨_, rfl⟩
  obtain ⟨FV, hFV⟩ : ∃ FV, FV = Value.func (Fn.func 51) #[] #[.pointer (some ⟨B, 0, none⟩)] := ⟨_, rfl⟩
  have hEX := (Ext.refl X).alloc (.cells #[.slice (some ⟨b, 0, none⟩) 2 2, Value.func (Fn.func 51) #[] #[.pointer (some ⟨B, 0, none⟩)]] 61)
  have hB3 := Box.new (N := X.heap.size) X #[.slice (some ⟨b, 0, none⟩) 2 2, Value.func (Fn.func 51) #[] #[.pointer (some ⟨B, 0, none⟩)]] 61 _ (Nat.le_refl _) rfl
  have hB03 := (hB0.ext hE).ext hEX
  have hB13 := (hB1.ext hE).ext hEX
  have hE3 := (hE0.trans hE).trans hEX
  have hc3 := hEX.cell hc
  obtain ⟨w3, hw3⟩ : ∃ w3, w3 = X.alloc (.cells #[.slice (some ⟨b, 0, none⟩) 2 2, Value.func (Fn.func 51) #[] #[.pointer (some ⟨B, 0, none⟩)]] 61) := ⟨_, rfl⟩
  rw [← hw3] at hB3 hB03 hB13 hE3 hc3 hEX
  rw [← hN3] at hB3
  have hB0X := hB0.ext hE
  have k0 := hB0X.cell 0 (by simp)
  have k1 := hB0X.cell 1 (by simp)
  have k2 := hB0X.cell 2 (by simp)
  have k3 := hB0X.cell 3 (by simp)
  have k4 := hB0X.cell 4 (by simp)
  have k5 := hB0X.cell 5 (by simp)
  simp only [List.getElem?_cons_zero, List.getElem?_cons_succ] at k0 k1 k2 k3 k4 k5
  have hr30 := cells_row (hR.ext hEX)
  clear hR
  have HN := Lib.hid hN
  rw [← hN]
  clear hN
  have H3 := Lib.hid (And.intro hw3 (And.intro hN3 (And.intro hB03 (And.intro hB13 (And.intro hE3 (And.intro hc3 (And.intro hr30 hB3)))))))
  clear hB0 hB1 hE0 hB3 hB03 hB13 hE3 hc3 hr30 hw3 hN3 hE hc hEX H0 hFV hB0X
  go_wp2_with fail
  rw [← H3.out.1, ← H3.out.2.1]
  clear k0 k1 k2 k3 k4 k5
  have hB03 := H3.out.2.2.1
  have hB13 := H3.out.2.2.2.1
  have hB3 := H3.out.2.2.2.2.2.2.2
  have k0 := hB03.cell 0 (by simp)
  have k1 := hB03.cell 1 (by simp)
  have k2 := hB03.cell 2 (by simp)
  have k3 := hB03.cell 3 (by simp)
  have k4 := hB03.cell 4 (by simp)
  have k5 := hB03.cell 5 (by simp)
  simp only [List.getElem?_cons_zero, List.getElem?_cons_succ] at k0 k1 k2 k3 k4 k5
  have m0 := hB13.cell 0 (by simp)
  have m1 := hB13.cell 1 (by simp)
  have m2 := hB13.cell 2 (by simp)
  have m3 := hB13.cell 3 (by simp)
  have m4 := hB13.cell 4 (by simp)
  have m5 := hB13.cell 5 (by simp)
  simp only [List.getElem?_cons_zero, List.getElem?_cons_succ] at m0 m1 m2 m3 m4 m5
  have hc30 := hB3.cell 0 (by simp)
  have hc31 := hB3.cell 1 (by simp)
  simp only [List.getElem?_cons_zero, List.getElem?_cons_succ] at hc30 hc31
  have hf1 := hB13.free
  clear hB03 hB13 hB3
  refine (contains_any (some ⟨b, 0, none⟩) 2 2 [1, 4] r.s _ H3.out.2.2.2.2.2.2.1 (by omega)).mono ?_
  rw [decide_eq_true HS.out]
  rintro e w' ⟨rfl, rfl⟩
  go_wp2_with fail
  refine (into1_any r B 2 _ H3.out.2.2.2.2.2.1).mono ?_
  rintro e w5 ⟨rfl, hE5⟩
  have hB13 := H3.out.2.2.2.1
  have hE3 := H3.out.2.2.2.2.1
  have hB14 := hB13.ext hE5
  have hE6 := hE3.trans hE5
  have n0 := hB14.cell 0 (by simp)
  have n1 := hB14.cell 1 (by simp)
  have n2 := hB14.cell 2 (by simp)
  have n3 := hB14.cell 3 (by simp)
  have n4 := hB14.cell 4 (by simp)
  have n5 := hB14.cell 5 (by simp)
  simp only [List.getElem?_cons_zero, List.getElem?_cons_succ] at n0 n1 n2 n3 n4 n5
  have hf14 := hB14.free
  have hl14 := hB14.lt
  have hb14 := hB14.base
  have H6 := Lib.hid hE6
  clear hE5 hB13 hE3 hB14 hE6 k0 k1 k2 k3 k4 k5 m0 m1 m2 m3 m4 m5 hc30 hc31 hf1 H3
  go_wp2
  refine bodyPost_ret (v := (.tuple #[rv (at_ 2), .int .i64 0])) (by simp [results, Try.results21, go_sem, n0, n1, n2, n3, n4, n5]) rfl ?_
  refine ⟨rfl, ?_⟩
  have hE6 := H6.out
  have hw1 : w.heap.size ≤ N + 1 := by have := HN.out; omega
  iterate 6 (refine Ext.setCell ?_ hw1 _)
  exact hE6
set_option maxHeartbeats 1000000 in
theorem cmd_5_yes (r : Ro) (w : World) (hs : r.s ∈ [1, 4, 2]) : Calls Try.prog 21 #[rv r, .int .i64 5] w fun e w' => e = .returned (.tuple #[rv (at_ 3), .int .i64 0]) ∧ Ext w w' := by
  have HS := Lib.hid hs
  clear hs
  have hB0 := (Box.new (N := w.heap.size) w #[.int .i64 r.s, .int .i64 r.g, .int .i64 r.h, .int .i64 r.t, .int .i64 r.e, .int .i64 r.a] 28 _ (Nat.le_refl _) rfl).ext ((Ext.refl _).alloc (.cells #[.int .i64 0, .int .i64 0, .int .i64 0, .int .i64 0, .int .i64 0, .int .i64 0] 28))
  have hB1 := Box.new (N := w.heap.size) (w.alloc (.cells #[.int .i64 r.s, .int .i64 r.g, .int .i64 r.h, .int .i64 r.t, .int .i64 r.e, .int .i64 r.a] 28)) #[.int .i64 0, .int .i64 0, .int .i64 0, .int .i64 0, .int .i64 0, .int .i64 0] 28 _ (by simp) rfl
  have hE0 := ((Ext.refl w).alloc (.cells #[.int .i64 r.s, .int .i64 r.g, .int .i64 r.h, .int .i64 r.t, .int .i64 r.e, .int .i64 r.a] 28)).alloc (.cells #[.int .i64 0, .int .i64 0, .int .i64 0, .int .i64 0, .int .i64 0, .int .i64 0] 28)
  rw [World.size_alloc] at hB1
  obtain ⟨N, hN⟩ : ∃ N, N = w.heap.size := ⟨_, rfl⟩
  rw [← hN] at hB0 hB1
  have H0 := Lib.hid (And.intro hB0 (And.intro hB1 (And.intro hE0 hN)))
  clear hB0 hB1 hE0 hN
  go_enter Try.func21, Try.ntmps21
  go_wp2_with fail
  refine (cof_5 _).mono ?_
  rintro e X ⟨b, B, rfl, hR, hc, hE⟩
  obtain ⟨hB0, hB1, hE0, hN⟩ := H0.out
  obtain ⟨N3, hN3⟩ : ∃ N3, N3 = X.heap.size := ⟨_, rfl⟩
  obtain ⟨FV, hFV⟩ : ∃ FV, FV = Value.func (Fn.func 51) #[] #[.pointer (some ⟨B, 0, none⟩)] := ⟨_, rfl⟩
  have hEX := (Ext.refl X).alloc (.cells #[.slice (some ⟨b, 0, none⟩) 3 3, Value.func (Fn.func 51) #[] #[.pointer (some ⟨B, 0, none⟩)]] 61)
  have hB3 := Box.new (N := X.heap.size) X #[.slice (some ⟨b, 0, none⟩) 3 3, Value.func (Fn.func 51) #[] #[.pointer (some ⟨B, 0, none⟩)]] 61 _ (Nat.le_refl _) rfl
  have hB03 := (hB0.ext hE).ext hEX
  have hB13 := (hB1.ext hE).ext hEX
  have hE3 := (hE0.trans hE).trans hEX
  have hc3 := hEX.cell hc
  obtain ⟨w3, hw3⟩ : ∃ w3, w3 = X.alloc (.cells #[.slice (some ⟨b, 0, none⟩) 3 3, Value.func (Fn.func 51) #[] #[.pointer (some ⟨B, 0, none⟩)]] 61) := ⟨_, rfl⟩
  rw [← hw3] at hB3 hB03 hB13 hE3 hc3 hEX
  rw [← hN3] at hB3
  have hB0X := hB0.ext hE
  have k0 := hB0X.cell 0 (by simp)
  have k1 := hB0X.cell 1 (by simp)
  have k2 := hB0X.cell 2 (by simp)
  have k3 := hB0X.cell 3 (by simp)
  have k4 := hB0X.cell 4 (by simp)
  have k5 := hB0X.cell 5 (by simp)
  simp only [List.getElem?_cons_zero, List.getElem?_cons_succ] at k0 k1 k2 k3 k4 k5
  have hr30 := cells_row (hR.ext hEX)
  clear hR
  have HN := Lib.hid hN
  rw [← hN]
  clear hN
  have H3 := Lib.hid (And.intro hw3 (And.intro hN3 (And.intro hB03 (And.intro hB13 (And.intro hE3 (And.intro hc3 (And.intro hr30 hB3)))))))
  clear hB0 hB1 hE0 hB3 hB03 hB13 hE3 hc3 hr30 hw3 hN3 hE hc hEX H0 hFV hB0X
  go_wp2_with fail
  rw [← H3.out.1, ← H3.out.2.1]
  clear k0 k1 k2 k3 k4 k5
  have hB03 := H3.out.2.2.1
  have hB13 := H3.out.2.2.2.1
  have hB3 := H3.out.2.2.2.2.2.2.2
  have k0 := hB03.cell 0 (by simp)
  have k1 := hB03.cell 1 (by simp)
  have k2 := hB03.cell 2 (by simp)
  have k3 := hB03.cell 3 (by simp)
  have k4 := hB03.cell 4 (by simp)
  have k5 := hB03.cell 5 (by simp)
  simp only [List.getElem?_cons_zero, List.getElem?_cons_succ] at k0 k1 k2 k3 k4 k5
  have m0 := hB13.cell 0 (by simp)
  have m1 := hB13.cell 1 (by simp)
  have m2 := hB13.cell 2 (by simp)
  have m3 := hB13.cell 3 (by simp)
  have m4 := hB13.cell 4 (by simp)
  have m5 := hB13.cell 5 (by simp)
  simp only [List.getElem?_cons_zero, List.getElem?_cons_succ] at m0 m1 m2 m3 m4 m5
  have hc30 := hB3.cell 0 (by simp)
  have hc31 := hB3.cell 1 (by simp)
  simp only [List.getElem?_cons_zero, List.getElem?_cons_succ] at hc30 hc31
  have hf1 := hB13.free
  clear hB03 hB13 hB3
  refine (contains_any (some ⟨b, 0, none⟩) 3 3 [1, 4, 2] r.s _ H3.out.2.2.2.2.2.2.1 (by omega)).mono ?_
  rw [decide_eq_true HS.out]
  rintro e w' ⟨rfl, rfl⟩
  go_wp2_with fail
  refine (into1_any r B 3 _ H3.out.2.2.2.2.2.1).mono ?_
  rintro e w5 ⟨rfl, hE5⟩
  have hB13 := H3.out.2.2.2.1
  have hE3 := H3.out.2.2.2.2.1
  have hB14 := hB13.ext hE5
  have hE6 := hE3.trans hE5
  have n0 := hB14.cell 0 (by simp)
  have n1 := hB14.cell 1 (by simp)
  have n2 := hB14.cell 2 (by simp)
  have n3 := hB14.cell 3 (by simp)
  have n4 := hB14.cell 4 (by simp)
  have n5 := hB14.cell 5 (by simp)
  simp only [List.getElem?_cons_zero, List.getElem?_cons_succ] at n0 n1 n2 n3 n4 n5
  have hf14 := hB14.free
  have hl14 := hB14.lt
  have hb14 := hB14.base
  have H6 := Lib.hid hE6
  clear hE5 hB13 hE3 hB14 hE6 k0 k1 k2 k3 k4 k5 m0 m1 m2 m3 m4 m5 hc30 hc31 hf1 H3
  go_wp2
  refine bodyPost_ret (v := (.tuple #[rv (at_ 3), .int .i64 0])) (by simp [results, Try.results21, go_sem, n0, n1, n2, n3, n4, n5]) rfl ?_
  refine ⟨rfl, ?_⟩
  have hE6 := H6.out
  have hw1 : w.heap.size ≤ N + 1 := by have := HN.out; omega
  iterate 6 (refine Ext.setCell ?_ hw1 _)
  exact hE6
set_option maxHeartbeats 1000000 in
theorem cmd_1_no (r : Ro) (w : World) (hs : r.s ∉ [0]) : Calls Try.prog 21 #[rv r, .int .i64 1] w fun e w' => e = .returned (.tuple #[rv (at_ 0), .int .i64 7]) ∧ Ext w w' := by
  have HS := Lib.hid hs
  clear hs
  have hB0 := (Box.new (N := w.heap.size) w #[.int .i64 r.s, .int .i64 r.g, .int .i64 r.h, .int .i64 r.t, .int .i64 r.e, .int .i64 r.a] 28 _ (Nat.le_refl _) rfl).ext ((Ext.refl _).alloc (.cells #[.int .i64 0, .int .i64 0, .int .i64 0, .int .i64 0, .int .i64 0, .int .i64 0] 28))
  have hB1 := Box.new (N := w.heap.size) (w.alloc (.cells #[.int .i64 r.s, .int .i64 r.g, .int .i64 r.h, .int .i64 r.t, .int .i64 r.e, .int .i64 r.a] 28)) #[.int .i64 0, .int .i64 0, .int .i64 0, .int .i64 0, .int .i64 0, .int .i64 0] 28 _ (by simp) rfl
  have hE0 := ((Ext.refl w).alloc (.cells #[.int .i64 r.s, .int .i64 r.g, .int .i64 r.h, .int .i64 r.t, .int .i64 r.e, .int .i64 r.a] 28)).alloc (.cells #[.int .i64 0, .int .i64 0, .int .i64 0, .int .i64 0, .int .i64 0, .int .i64 0] 28)
  rw [World.size_alloc] at hB1
  obtain ⟨N, hN⟩ : ∃ N, N = w.heap.size := ⟨_, rfl⟩
  rw [← hN] at hB0 hB1
  have H0 := Lib.hid (And.intro hB0 (And.intro hB1 (And.intro hE0 hN)))
  clear hB0 hB1 hE0 hN
  go_enter Try.func21, Try.ntmps21
  go_wp2_with fail
  refine (cof_1 _).mono ?_
  rintro e X ⟨b, B, rfl, hR, hc, hE⟩
  obtain ⟨hB0, hB1, hE0, hN⟩ := H0.out
  obtain ⟨N3, hN3⟩ : ∃ N3, N3 = X.heap.size := ⟨_, rfl⟩
  obtain ⟨FV, hFV⟩ : ∃ FV, FV = Value.func (Fn.func 51) #[] #[.pointer (some ⟨B, 0, none⟩)] := ⟨_, rfl⟩
  have hEX := (Ext.refl X).alloc (.cells #[.slice (some ⟨b, 0, none⟩) 1 1, Value.func (Fn.func 51) #[] #[.pointer (some ⟨B, 0, none⟩)]] 61)
  have hB3 := Box.new (N := X.heap.size) X #[.slice (some ⟨b, 0, none⟩) 1 1, Value.func (Fn.func 51) #[] #[.pointer (some ⟨B, 0, none⟩)]] 61 _ (Nat.le_refl _) rfl
  have hB03 := (hB0.ext hE).ext hEX
  have hB13 := (hB1.ext hE).ext hEX
  have hE3 := (hE0.trans hE).trans hEX
  have hc3 := hEX.cell hc
  obtain ⟨w3, hw3⟩ : ∃ w3, w3 = X.alloc (.cells #[.slice (some ⟨b, 0, none⟩) 1 1, Value.func (Fn.func 51) #[] #[.pointer (some ⟨B, 0, none⟩)]] 61) := ⟨_, rfl⟩
  rw [← hw3] at hB3 hB03 hB13 hE3 hc3 hEX
  rw [← hN3] at hB3
  have hB0X := hB0.ext hE
  have k0 := hB0X.cell 0 (by simp)
  have k1 := hB0X.cell 1 (by simp)
  have k2 := hB0X.cell 2 (by simp)
  have k3 := hB0X.cell 3 (by simp)
  have k4 := hB0X.cell 4 (by simp)
  have k5 := hB0X.cell 5 (by simp)
  simp only [List.getElem?_cons_zero, List.getElem?_cons_succ] at k0 k1 k2 k3 k4 k5
  have hr30 := cells_row (hR.ext hEX)
  clear hR
  have HN := Lib.hid hN
  rw [← hN]
  clear hN
  have H3 := Lib.hid (And.intro hw3 (And.intro hN3 (And.intro hB03 (And.intro hB13 (And.intro hE3 (And.intro hc3 (And.intro hr30 hB3)))))))
  clear hB0 hB1 hE0 hB3 hB03 hB13 hE3 hc3 hr30 hw3 hN3 hE hc hEX H0 hFV hB0X
  go_wp2_with fail
  rw [← H3.out.1, ← H3.out.2.1]
  clear k0 k1 k2 k3 k4 k5
  have hB03 := H3.out.2.2.1
  have hB13 := H3.out.2.2.2.1
  have hB3 := H3.out.2.2.2.2.2.2.2
  have k0 := hB03.cell 0 (by simp)
  have k1 := hB03.cell 1 (by simp)
  have k2 := hB03.cell 2 (by simp)
  have k3 := hB03.cell 3 (by simp)
  have k4 := hB03.cell 4 (by simp)
  have k5 := hB03.cell 5 (by simp)
  simp only [List.getElem?_cons_zero, List.getElem?_cons_succ] at k0 k1 k2 k3 k4 k5
  have m0 := hB13.cell 0 (by simp)
  have m1 := hB13.cell 1 (by simp)
  have m2 := hB13.cell 2 (by simp)
  have m3 := hB13.cell 3 (by simp)
  have m4 := hB13.cell 4 (by simp)
  have m5 := hB13.cell 5 (by simp)
  simp only [List.getElem?_cons_zero, List.getElem?_cons_succ] at m0 m1 m2 m3 m4 m5
  have hc30 := hB3.cell 0 (by simp)
  have hc31 := hB3.cell 1 (by simp)
  simp only [List.getElem?_cons_zero, List.getElem?_cons_succ] at hc30 hc31
  have hf1 := hB13.free
  clear hB03 hB13 hB3
  have hl1 := H3.out.2.2.2.1.lt
  refine (contains_any (some ⟨b, 0, none⟩) 1 1 [0] r.s _ H3.out.2.2.2.2.2.2.1 (by omega)).mono ?_
  rw [decide_eq_false HS.out]
  rintro e w' ⟨rfl, rfl⟩
  go_wp2
  refine bodyPost_ret (v := (.tuple #[.agg #[.int .i64 0, .int .i64 0, .int .i64 0, .int .i64 0, .int .i64 0, .int .i64 0], .int .i64 7])) (by simp [results, Try.results21, go_sem, m0, m1, m2, m3, m4, m5]) rfl ?_
  refine ⟨rfl, ?_⟩
  have hE6 := H3.out.2.2.2.2.1
  have hw1 : w.heap.size ≤ N + 1 := by have := HN.out; omega
  iterate 6 (refine Ext.setCell ?_ hw1 _)
  exact hE6
set_option maxHeartbeats 1000000 in
theorem cmd_2_no (r : Ro) (w : World) (hs : r.s ∉ [1]) : Calls Try.prog 21 #[rv r, .int .i64 2] w fun e w' => e = .returned (.tuple #[rv (at_ 0), .int .i64 7]) ∧ Ext w w' := by
  have HS := Lib.hid hs
  clear hs
  have hB0 := (Box.new (N := w.heap.size) w #[.int .i64 r.s, .int .i64 r.g, .int .i64 r.h, .int .i64 r.t, .int .i64 r.e, .int .i64 r.a] 28 _ (Nat.le_refl _) rfl).ext ((Ext.refl _).alloc (.cells #[.int .i64 0, .int .i64 0, .int .i64 0, .int .i64 0, .int .i64 0, .int .i64 0] 28))
  have hB1 := Box.new (N := w.heap.size) (w.alloc (.cells #[.int .i64 r.s, .int .i64 r.g, .int .i64 r.h, .int .i64 r.t, .int .i64 r.e, .int .i64 r.a] 28)) #[.int .i64 0, .int .i64 0, .int .i64 0, .int .i64 0, .int .i64 0, .int .i64 0] 28 _ (by simp) rfl
  have hE0 := ((Ext.refl w).alloc (.cells #[.int .i64 r.s, .int .i64 r.g, .int .i64 r.h, .int .i64 r.t, .int .i64 r.e, .int .i64 r.a] 28)).alloc (.cells #[.int .i64 0, .int .i64 0, .int .i64 0, .int .i64 0, .int .i64 0, .int .i64 0] 28)
  rw [World.size_alloc] at hB1
  obtain ⟨N, hN⟩ : ∃ N, N = w.heap.size := ⟨_, rfl⟩
  rw [← hN] at hB0 hB1
  have H0 := Lib.hid (And.intro hB0 (And.intro hB1 (And.intro hE0 hN)))
  clear hB0 hB1 hE0 hN
  go_enter Try.func21, Try.ntmps21
  go_wp2_with fail
  refine (cof_2 _).mono ?_
  rintro e X ⟨b, B, rfl, hR, hc, hE⟩
  obtain ⟨hB0, hB1, hE0, hN⟩ := H0.out
  obtain ⟨N3, hN3⟩ : ∃ N3, N3 = X.heap.size := ⟨_, rfl⟩
  obtain ⟨FV, hFV⟩ : ∃ FV, FV = Value.func (Fn.func 52) #[] #[.pointer (some ⟨B, 0, none⟩)] := ⟨_, rfl⟩
  have hEX := (Ext.refl X).alloc (.cells #[.slice (some ⟨b, 0, none⟩) 1 1, Value.func (Fn.func 52) #[] #[.pointer (some ⟨B, 0, none⟩)]] 61)
  have hB3 := Box.new (N := X.heap.size) X #[.slice (some ⟨b, 0, none⟩) 1 1, Value.func (Fn.func 52) #[] #[.pointer (some ⟨B, 0, none⟩)]] 61 _ (Nat.le_refl _) rfl
  have hB03 := (hB0.ext hE).ext hEX
  have hB13 := (hB1.ext hE).ext hEX
  have hE3 := (hE0.trans hE).trans hEX
  have hc3 := hEX.cell hc
  obtain ⟨w3, hw3⟩ : ∃ w3, w3 = X.alloc (.cells #[.slice (some ⟨b, 0, none⟩) 1 1, Value.func (Fn.func 52) #[] #[.pointer (some ⟨B, 0, none⟩)]] 61) := ⟨_, rfl⟩
  rw [← hw3] at hB3 hB03 hB13 hE3 hc3 hEX
  rw [← hN3] at hB3
  have hB0X := hB0.ext hE
  have k0 := hB0X.cell 0 (by simp)
  have k1 := hB0X.cell 1 (by simp)
  have k2 := hB0X.cell 2 (by simp)
  have k3 := hB0X.cell 3 (by simp)
  have k4 := hB0X.cell 4 (by simp)
  have k5 := hB0X.cell 5 (by simp)
  simp only [List.getElem?_cons_zero, List.getElem?_cons_succ] at k0 k1 k2 k3 k4 k5
  have hr30 := cells_row (hR.ext hEX)
  clear hR
  have HN := Lib.hid hN
  rw [← hN]
  clear hN
  have H3 := Lib.hid (And.intro hw3 (And.intro hN3 (And.intro hB03 (And.intro hB13 (And.intro hE3 (And.intro hc3 (And.intro hr30 hB3)))))))
  clear hB0 hB1 hE0 hB3 hB03 hB13 hE3 hc3 hr30 hw3 hN3 hE hc hEX H0 hFV hB0X
  go_wp2_with fail
  rw [← H3.out.1, ← H3.out.2.1]
  clear k0 k1 k2 k3 k4 k5
  have hB03 := H3.out.2.2.1
  have hB13 := H3.out.2.2.2.1
  have hB3 := H3.out.2.2.2.2.2.2.2
  have k0 := hB03.cell 0 (by simp)
  have k1 := hB03.cell 1 (by simp)
  have k2 := hB03.cell 2 (by simp)
  have k3 := hB03.cell 3 (by simp)
  have k4 := hB03.cell 4 (by simp)
  have k5 := hB03.cell 5 (by simp)
  simp only [List.getElem?_cons_zero, List.getElem?_cons_succ] at k0 k1 k2 k3 k4 k5
  have m0 := hB13.cell 0 (by simp)
  have m1 := hB13.cell 1 (by simp)
  have m2 := hB13.cell 2 (by simp)
  have m3 := hB13.cell 3 (by simp)
  have m4 := hB13.cell 4 (by simp)
  have m5 := hB13.cell 5 (by simp)
  simp only [List.getElem?_cons_zero, List.getElem?_cons_succ] at m0 m1 m2 m3 m4 m5
  have hc30 := hB3.cell 0 (by simp)
  have hc31 := hB3.cell 1 (by simp)
  simp only [List.getElem?_cons_zero, List.getElem?_cons_succ] at hc30 hc31
  have hf1 := hB13.free
  clear hB03 hB13 hB3
  have hl1 := H3.out.2.2.2.1.lt
  refine (contains_any (some ⟨b, 0, none⟩) 1 1 [1] r.s _ H3.out.2.2.2.2.2.2.1 (by omega)).mono ?_
  rw [decide_eq_false HS.out]
  rintro e w' ⟨rfl, rfl⟩
  go_wp2
  refine bodyPost_ret (v := (.tuple #[.agg #[.int .i64 0, .int .i64 0, .int .i64 0, .int .i64 0, .int .i64 0, .int .i64 0], .int .i64 7])) (by simp [results, Try.results21, go_sem, m0, m1, m2, m3, m4, m5]) rfl ?_
  refine ⟨rfl, ?_⟩
  have hE6 := H3.out.2.2.2.2.1
  have hw1 : w.heap.size ≤ N + 1 := by have := HN.out; omega
  iterate 6 (refine Ext.setCell ?_ hw1 _)
  exact hE6
set_option maxHeartbeats 1000000 in
theorem cmd_3_no (r : Ro) (w : World) (hs : r.s ∉ [4]) : Calls Try.prog 21 #[rv r, .int .i64 3] w fun e w' => e = .returned (.tuple #[rv (at_ 0), .int .i64 7]) ∧ Ext w w' := by
  have HS := Lib.hid hs
  clear hs
  have hB0 := (Box.new (N := w.heap.size) w #[.int .i64 r.s, .int .i64 r.g, .int .i64 r.h, .int .i64 r.t, .int .i64 r.e, .int .i64 r.a] 28 _ (Nat.le_refl _) rfl).ext ((Ext.refl _).alloc (.cells #[.int .i64 0, .int .i64 0, .int .i64 0, .int .i64 0, .int .i64 0, .int .i64 0] 28))
  have hB1 := Box.new (N := w.heap.size) (w.alloc (.cells #[.int .i64 r.s, .int .i64 r.g, .int .i64 r.h, .int .i64 r.t, .int .i64 r.e, .int .i64 r.a] 28)) #[.int .i64 0, .int .i64 0, .int .i64 0, .int .i64 0, .int .i64 0, .int .i64 0] 28 _ (by simp) rfl
  have hE0 := ((Ext.refl w).alloc (.cells #[.int .i64 r.s, .int .i64 r.g, .int .i64 r.h, .int .i64 r.t, .int .i64 r.e, .int .i64 r.a] 28)).alloc (.cells #[.int .i64 0, .int .i64 0, .int .i64 0, .int .i64 0, .int .i64 0, .int .i64 0] 28)
  rw [World.size_alloc] at hB1
  obtain ⟨N, hN⟩ : ∃ N, N = w.heap.size := ⟨_, rfl⟩
  rw [← hN] at hB0 hB1
  have H0 := Lib.hid (And.intro hB0 (And.intro hB1 (And.intro hE0 hN)))
  clear hB0 hB1 hE0 hN
  go_enter Try.func21, Try.ntmps21
  go_wp2_with fail
  refine (cof_3 _).mono ?_
  rintro e X ⟨b, B, rfl, hR, hc, hE⟩
  obtain ⟨hB0, hB1, hE0, hN⟩ := H0.out
  obtain ⟨N3, hN3⟩ : ∃ N3, N3 = X.heap.size := ⟨_, rfl⟩
  obtain ⟨FV, hFV⟩ : ∃ FV, FV = Value.func (Fn.func 52) #[] #[.pointer (some ⟨B, 0, none⟩)] := ⟨_, rfl⟩
  have hEX := (Ext.refl X).alloc (.cells #[.slice (some ⟨b, 0, none⟩) 1 1, Value.func (Fn.func 52) #[] #[.pointer (some ⟨B, 0, none⟩)]] 61)
  have hB3 := Box.new (N := X.heap.size) X #[.slice (some ⟨b, 0, none⟩) 1 1, Value.func (Fn.func 52) #[] #[.pointer (some ⟨B, 0, none⟩)]] 61 _ (Nat.le_refl _) rfl
  have hB03 := (hB0.ext hE).ext hEX
  have hB13 := (hB1.ext hE).ext hEX
  have hE3 := (hE0.trans hE).trans hEX
  have hc3 := hEX.cell hc
  obtain ⟨w3, hw3⟩ : ∃ w3, w3 = X.alloc (.cells #[.slice (some ⟨b, 0, none⟩) 1 1, Value.func (Fn.func 52) #[] #[.pointer (some ⟨B, 0, none⟩)]] 61) := ⟨_, rfl⟩
  rw [← hw3] at hB3 hB03 hB13 hE3 hc3 hEX
  rw [← hN3] at hB3
  have hB0X := hB0.ext hE
  have k0 := hB0X.cell 0 (by simp)
  have k1 := hB0X.cell 1 (by simp)
  have k2 := hB0X.cell 2 (by simp)
  have k3 := hB0X.cell 3 (by simp)
  have k4 := hB0X.cell 4 (by simp)
  have k5 := hB0X.cell 5 (by simp)
  simp only [List.getElem?_cons_zero, List.getElem?_cons_succ] at k0 k1 k2 k3 k4 k5
  have hr30 := cells_row (hR.ext hEX)
  clear hR
  have HN := Lib.hid hN
  rw [← hN]
  clear hN
  have H3 := Lib.hid (And.intro hw3 (And.intro hN3 (And.intro hB03 (And.intro hB13 (And.intro hE3 (And.intro hc3 (And.intro hr30 hB3)))))))
  clear hB0 hB1 hE0 hB3 hB03 hB13 hE3 hc3 hr30 hw3 hN3 hE hc hEX H0 hFV hB0X
  go_wp2_with fail
  rw [← H3.out.1, ← H3.out.2.1]
  clear k0 k1 k2 k3 k4 k5
  have hB03 := H3.out.2.2.1
  have hB13 := H3.out.2.2.2.1
  have hB3 := H3.out.2.2.2.2.2.2.2
  have k0 := hB03.cell 0 (by simp)
  have k1 := hB03.cell 1 (by simp)
  have k2 := hB03.cell 2 (by simp)
  have k3 := hB03.cell 3 (by simp)
  have k4 := hB03.cell 4 (by simp)
  have k5 := hB03.cell 5 (by simp)
  simp only [List.getElem?_cons_zero, List.getElem?_cons_succ] at k0 k1 k2 k3 k4 k5
  have m0 := hB13.cell 0 (by simp)
  have m1 := hB13.cell 1 (by simp)
  have m2 := hB13.cell 2 (by simp)
  have m3 := hB13.cell 3 (by simp)
  have m4 := hB13.cell 4 (by simp)
  have m5 := hB13.cell 5 (by simp)
  simp only [List.getElem?_cons_zero, List.getElem?_cons_succ] at m0 m1 m2 m3 m4 m5
  have hc30 := hB3.cell 0 (by simp)
  have hc31 := hB3.cell 1 (by simp)
  simp only [List.getElem?_cons_zero, List.getElem?_cons_succ] at hc30 hc31
  have hf1 := hB13.free
  clear hB03 hB13 hB3
  have hl1 := H3.out.2.2.2.1.lt
  refine (contains_any (some ⟨b, 0, none⟩) 1 1 [4] r.s _ H3.out.2.2.2.2.2.2.1 (by omega)).mono ?_
  rw [decide_eq_false HS.out]
  rintro e w' ⟨rfl, rfl⟩
  go_wp2
  refine bodyPost_ret (v := (.tuple #[.agg #[.int .i64 0, .int .i64 0, .int .i64 0, .int .i64 0, .int .i64 0, .int .i64 0], .int .i64 7])) (by simp [results, Try.results21, go_sem, m0, m1, m2, m3, m4, m5]) rfl ?_
  refine ⟨rfl, ?_⟩
  have hE6 := H3.out.2.2.2.2.1
  have hw1 : w.heap.size ≤ N + 1 := by have := HN.out; omega
  iterate 6 (refine Ext.setCell ?_ hw1 _)
  exact hE6
set_option maxHeartbeats 1000000 in
theorem cmd_4_no (r : Ro) (w : World) (hs : r.s ∉ [1, 4]) : Calls Try.prog 21 #[rv r, .int .i64 4] w fun e w' => e = .returned (.tuple #[rv (at_ 0), .int .i64 7]) ∧ Ext w w' := by
  have HS := Lib.hid hs
  clear hs
  have hB0 := (Box.new (N := w.heap.size) w #[.int .i64 r.s, .int .i64 r.g, .int .i64 r.h, .int .i64 r.t, .int .i64 r.e, .int .i64 r.a] 28 _ (Nat.le_refl _) rfl).ext ((Ext.refl _).alloc (.cells #[.int .i64 0, .int .i64 0, .int .i64 0, .int .i64 0, .int .i64 0, .int .i64 0] 28))
  have hB1 := Box.new (N := w.heap.size) (w.alloc (.cells #[.int .i64 r.s, .int .i64 r.g, .int .i64 r.h, .int .i64 r.t, .int .i64 r.e, .int .i64 r.a] 28)) #[.int .i64 0, .int .i64 0, .int .i64 0, .int .i64 0, .int .i64 0, .int .i64 0] 28 _ (by simp) rfl
  have hE0 := ((Ext.refl w).alloc (.cells #[.int .i64 r.s, .int .i64 r.g, .int .i64 r.h, .int .i64 r.t, .int .i64 r.e, .int .i64 r.a] 28)).alloc (.cells #[.int .i64 0, .int .i64 0, .int .i64 0, .int .i64 0, .int .i64 0, .int .i64 0] 28)
  rw [World.size_alloc] at hB1
  obtain ⟨N, hN⟩ : ∃ N, N = w.heap.size := ⟨_, rfl⟩
  rw [← hN] at hB0 hB1
  have H0 := Lib.hid (And.intro hB0 (And.intro hB1 (And.intro hE0 hN)))
  clear hB0 hB1 hE0 hN
  go_enter Try.func21, Try.ntmps21
  go_wp2_with fail
  refine (cof_4 _).mono ?_
  rintro e X ⟨b, B, rfl, hR, hc, hE⟩
  obtain ⟨hB0, hB1, hE0, hN⟩ := H0.out
  obtain ⟨N3, hN3⟩ : ∃ N3, N3 = X.heap.size := ⟨_, rfl⟩
  obtain ⟨FV, hFV⟩ : ∃ FV, FV = Value.func (Fn.func 51) #[] #[.pointer (some ⟨B, 0, none⟩)] := ⟨_, rfl⟩
  have hEX := (Ext.refl X).alloc (.cells #[.slice (some ⟨b, 0, none⟩) 2 2, Value.func (Fn.func 51) #[] #[.pointer (some ⟨B, 0, none⟩)]] 61)
  have hB3 := Box.new (N := X.heap.size) X #[.slice (some ⟨b, 0, none⟩) 2 2, Value.func (Fn.func 51) #[] #[.pointer (some ⟨B, 0, none⟩)]] 61 _ (Nat.le_refl _) rfl
  have hB03 := (hB0.ext hE).ext hEX
  have hB13 := (hB1.ext hE).ext hEX
  have hE3 := (hE0.trans hE).trans hEX
  have hc3 := hEX.cell hc
  obtain ⟨w3, hw3⟩ : ∃ w3, w3 = X.alloc (.cells #[.slice (some ⟨b, 0, none⟩) 2 2, Value.func (Fn.func 51) #[] #[.pointer (some ⟨B, 0, none⟩)]] 61) := ⟨_, rfl⟩
  rw [← hw3] at hB3 hB03 hB13 hE3 hc3 hEX
  rw [← hN3] at hB3
  have hB0X := hB0.ext hE
  have k0 := hB0X.cell 0 (by simp)
  have k1 := hB0X.cell 1 (by simp)
  have k2 := hB0X.cell 2 (by simp)
  have k3 := hB0X.cell 3 (by simp)
  have k4 := hB0X.cell 4 (by simp)
  have k5 := hB0X.cell 5 (by simp)
  simp only [List.getElem?_cons_zero, List.getElem?_cons_succ] at k0 k1 k2 k3 k4 k5
  have hr30 := cells_row (hR.ext hEX)
  clear hR
  have HN := Lib.hid hN
  rw [← hN]
  clear hN
  have H3 := Lib.hid (And.intro hw3 (And.intro hN3 (And.intro hB03 (And.intro hB13 (And.intro hE3 (And.intro hc3 (And.intro hr30 hB3)))))))
  clear hB0 hB1 hE0 hB3 hB03 hB13 hE3 hc3 hr30 hw3 hN3 hE hc hEX H0 hFV hB0X
  go_wp2_with fail
  rw [← H3.out.1, ← H3.out.2.1]
  clear k0 k1 k2 k3 k4 k5
  have hB03 := H3.out.2.2.1
  have hB13 := H3.out.2.2.2.1
  have hB3 := H3.out.2.2.2.2.2.2.2
  have k0 := hB03.cell 0 (by simp)
  have k1 := hB03.cell 1 (by simp)
  have k2 := hB03.cell 2 (by simp)
  have k3 := hB03.cell 3 (by simp)
  have k4 := hB03.cell 4 (by simp)
  have k5 := hB03.cell 5 (by simp)
  simp only [List.getElem?_cons_zero, List.getElem?_cons_succ] at k0 k1 k2 k3 k4 k5
  have m0 := hB13.cell 0 (by simp)
  have m1 := hB13.cell 1 (by simp)
  have m2 := hB13.cell 2 (by simp)
  have m3 := hB13.cell 3 (by simp)
  have m4 := hB13.cell 4 (by simp)
  have m5 := hB13.cell 5 (by simp)
  simp only [List.getElem?_cons_zero, List.getElem?_cons_succ] at m0 m1 m2 m3 m4 m5
  have hc30 := hB3.cell 0 (by simp)
  have hc31 := hB3.cell 1 (by simp)
  simp only [List.getElem?_cons_zero, List.getElem?_cons_succ] at hc30 hc31
  have hf1 := hB13.free
  clear hB03 hB13 hB3
  have hl1 := H3.out.2.2.2.1.lt
  refine (contains_any (some ⟨b, 0, none⟩) 2 2 [1, 4] r.s _ H3.out.2.2.2.2.2.2.1 (by omega)).mono ?_
  rw [decide_eq_false HS.out]
  rintro e w' ⟨rfl, rfl⟩
  go_wp2
  refine bodyPost_ret (v := (.tuple #[.agg #[.int .i64 0, .int .i64 0, .int .i64 0, .int .i64 0, .int .i64 0, .int .i64 0], .int .i64 7])) (by simp [results, Try.results21, go_sem, m0, m1, m2, m3, m4, m5]) rfl ?_
  refine ⟨rfl, ?_⟩
  have hE6 := H3.out.2.2.2.2.1
  have hw1 : w.heap.size ≤ N + 1 := by have := HN.out; omega
  iterate 6 (refine Ext.setCell ?_ hw1 _)
  exact hE6
set_option maxHeartbeats 1000000 in
theorem cmd_5_no (r : Ro) (w : World) (hs : r.s ∉ [1, 4, 2]) : Calls Try.prog 21 #[rv r, .int .i64 5] w fun e w' => e = .returned (.tuple #[rv (at_ 0), .int .i64 7]) ∧ Ext w w' := by
  have HS := Lib.hid hs
  clear hs
  have hB0 := (Box.new (N := w.heap.size) w #[.int .i64 r.s, .int .i64 r.g, .int .i64 r.h, .int .i64 r.t, .int .i64 r.e, .int .i64 r.a] 28 _ (Nat.le_refl _) rfl).ext ((Ext.refl _).alloc (.cells #[.int .i64 0, .int .i64 0, .int .i64 0, .int .i64 0, .int .i64 0, .int .i64 0] 28))
  have hB1 := Box.new (N := w.heap.size) (w.alloc (.cells #[.int .i64 r.s, .int .i64 r.g, .int .i64 r.h, .int .i64 r.t, .int .i64 r.e, .int .i64 r.a] 28)) #[.int .i64 0, .int .i64 0, .int .i64 0, .int .i64 0, .int .i64 0, .int .i64 0] 28 _ (by simp) rfl
  have hE0 := ((Ext.refl w).alloc (.cells #[.int .i64 r.s, .int .i64 r.g, .int .i64 r.h, .int .i64 r.t, .int .i64 r.e, .int .i64 r.a] 28)).alloc (.cells #[.int .i64 0, .int .i64 0, .int .i64 0, .int .i64 0, .int .i64 0, .int .i64 0] 28)
  rw [World.size_alloc] at hB1
  obtain ⟨N, hN⟩ : ∃ N, N = w.heap.size := ⟨_, rfl⟩
  rw [← hN] at hB0 hB1
  have H0 := Lib.hid (And.intro hB0 (And.intro hB1 (And.intro hE0 hN)))
  clear hB0 hB1 hE0 hN
  go_enter Try.func21, Try.ntmps21
  go_wp2_with fail
  refine (cof_5 _).mono ?_
  rintro e X ⟨b, B, rfl, hR, hc, hE⟩
  obtain ⟨hB0, hB1, hE0, hN⟩ := H0.out
  obtain ⟨N3, hN3⟩ : ∃ N3, N3 = X.heap.size := ⟨_, rfl⟩
  obtain ⟨FV, hFV⟩ : ∃ FV, FV = Value.func (Fn.func 51) #[] #[.pointer (some ⟨B, 0, none⟩)] := ⟨_, rfl⟩
  have hEX := (Ext.refl X).alloc (.cells #[.slice (some ⟨b, 0, none⟩) 3 3, Value.func (Fn.func 51) #[] #[.pointer (some ⟨B, 0, none⟩)]] 61)
  have hB3 := Box.new (N := X.heap.size) X #[.slice (some ⟨b, 0, none⟩) 3 3, Value.func (Fn.func 51) #[] #[.pointer (some ⟨B, 0, none⟩)]] 61 _ (Nat.le_refl _) rfl
  have hB03 := (hB0.ext hE).ext hEX
  have hB13 := (hB1.ext hE).ext hEX
  have hE3 := (hE0.trans hE).trans hEX
  have hc3 := hEX.cell hc
  obtain ⟨w3, hw3⟩ : ∃ w3, w3 = X.alloc (.cells #[.slice (some ⟨b, 0, none⟩) 3 3, Value.func (Fn.func 51) #[] #[.pointer (some ⟨B, 0, none⟩)]] 61) := ⟨_, rfl⟩
  rw [← hw3] at hB3 hB03 hB13 hE3 hc3 hEX
  rw [← hN3] at hB3
  have hB0X := hB0.ext hE
  have k0 := hB0X.cell 0 (by simp)
  have k1 := hB0X.cell 1 (by simp)
  have k2 := hB0X.cell 2 (by simp)
  have k3 := hB0X.cell 3 (by simp)
  have k4 := hB0X.cell 4 (by simp)
  have k5 := hB0X.cell 5 (by simp)
  simp only [List.getElem?_cons_zero, List.getElem?_cons_succ] at k0 k1 k2 k3 k4 k5
  have hr30 := cells_row (hR.ext hEX)
  clear hR
  have HN := Lib.hid hN
  rw [← hN]
  clear hN
  have H3 := Lib.hid (And.intro hw3 (And.intro hN3 (And.intro hB03 (And.intro hB13 (And.intro hE3 (And.intro hc3 (And.intro hr30 hB3)))))))
  clear hB0 hB1 hE0 hB3 hB03 hB13 hE3 hc3 hr30 hw3 hN3 hE hc hEX H0 hFV hB0X
  go_wp2_with fail
  rw [← H3.out.1, ← H3.out.2.1]
  clear k0 k1 k2 k3 k4 k5
  have hB03 := H3.out.2.2.1
  have hB13 := H3.out.2.2.2.1
  have hB3 := H3.out.2.2.2.2.2.2.2
  have k0 := hB03.cell 0 (by simp)
  have k1 := hB03.cell 1 (by simp)
  have k2 := hB03.cell 2 (by simp)
  have k3 := hB03.cell 3 (by simp)
  have k4 := hB03.cell 4 (by simp)
  have k5 := hB03.cell 5 (by simp)
  simp only [List.getElem?_cons_zero, List.getElem?_cons_succ] at k0 k1 k2 k3 k4 k5
  have m0 := hB13.cell 0 (by simp)
  have m1 := hB13.cell 1 (by simp)
  have m2 := hB13.cell 2 (by simp)
  have m3 := hB13.cell 3 (by simp)
  have m4 := hB13.cell 4 (by simp)
  have m5 := hB13.cell 5 (by simp)
  simp only [List.getElem?_cons_zero, List.getElem?_cons_succ] at m0 m1 m2 m3 m4 m5
  have hc30 := hB3.cell 0 (by simp)
  have hc31 := hB3.cell 1 (by simp)
  simp only [List.getElem?_cons_zero, List.getElem?_cons_succ] at hc30 hc31
  have hf1 := hB13.free
  clear hB03 hB13 hB3
  have hl1 := H3.out.2.2.2.1.lt
  refine (contains_any (some ⟨b, 0, none⟩) 3 3 [1, 4, 2] r.s _ H3.out.2.2.2.2.2.2.1 (by omega)).mono ?_
  rw [decide_eq_false HS.out]
  rintro e w' ⟨rfl, rfl⟩
  go_wp2
  refine bodyPost_ret (v := (.tuple #[.agg #[.int .i64 0, .int .i64 0, .int .i64 0, .int .i64 0, .int .i64 0, .int .i64 0], .int .i64 7])) (by simp [results, Try.results21, go_sem, m0, m1, m2, m3, m4, m5]) rfl ?_
  refine ⟨rfl, ?_⟩
  have hE6 := H3.out.2.2.2.2.1
  have hw1 : w.heap.size ≤ N + 1 := by have := HN.out; omega
  iterate 6 (refine Ext.setCell ?_ hw1 _)
  exact hE6
set_option maxHeartbeats 1000000 in
theorem cmd_6 (r : Ro) (w : World) : Calls Try.prog 21 #[rv r, .int .i64 6] w fun e w' => e = .returned (.tuple #[rv (at_ 0), .int .i64 0]) ∧ Ext w w' := by
  have hB0 := (Box.new (N := w.heap.size) w #[.int .i64 r.s, .int .i64 r.g, .int .i64 r.h, .int .i64 r.t, .int .i64 r.e, .int .i64 r.a] 28 _ (Nat.le_refl _) rfl).ext ((Ext.refl _).alloc (.cells #[.int .i64 0, .int .i64 0, .int .i64 0, .int .i64 0, .int .i64 0, .int .i64 0] 28))
  have hB1 := Box.new (N := w.heap.size) (w.alloc (.cells #[.int .i64 r.s, .int .i64 r.g, .int .i64 r.h, .int .i64 r.t, .int .i64 r.e, .int .i64 r.a] 28)) #[.int .i64 0, .int .i64 0, .int .i64 0, .int .i64 0, .int .i64 0, .int .i64 0] 28 _ (by simp) rfl
  have hE0 := ((Ext.refl w).alloc (.cells #[.int .i64 r.s, .int .i64 r.g, .int .i64 r.h, .int .i64 r.t, .int .i64 r.e, .int .i64 r.a] 28)).alloc (.cells #[.int .i64 0, .int .i64 0, .int .i64 0, .int .i64 0, .int .i64 0, .int .i64 0] 28)
  rw [World.size_alloc] at hB1
  obtain ⟨N, hN⟩ : ∃ N, N = w.heap.size := ⟨_, rfl⟩
  rw [← hN] at hB0 hB1
  have H0 := Lib.hid (And.intro hB0 (And.intro hB1 (And.intro hE0 hN)))
  clear hB0 hB1 hE0 hN
  go_enter Try.func21, Try.ntmps21
  go_wp2_with fail
  refine (cof_6 _).mono ?_
  rintro e X ⟨B, rfl, hc, hE⟩
  obtain ⟨hB0, hB1, hE0, hN⟩ := H0.out
  obtain ⟨N3, hN3⟩ : ∃ N3, N3 = X.heap.size := ⟨_, rfl⟩
  obtain ⟨FV, hFV⟩ : ∃ FV, FV = Value.func (Fn.func 51) #[] #[.pointer (some ⟨B, 0, none⟩)] := ⟨_, rfl⟩
  have hEX := (Ext.refl X).alloc (.cells #[.slice none 0 0, Value.func (Fn.func 51) #[] #[.pointer (some ⟨B, 0, none⟩)]] 61)
  have hB3 := Box.new (N := X.heap.size) X #[.slice none 0 0, Value.func (Fn.func 51) #[] #[.pointer (some ⟨B, 0, none⟩)]] 61 _ (Nat.le_refl _) rfl
  have hB03 := (hB0.ext hE).ext hEX
  have hB13 := (hB1.ext hE).ext hEX
  have hE3 := (hE0.trans hE).trans hEX
  have hc3 := hEX.cell hc
  obtain ⟨w3, hw3⟩ : ∃ w3, w3 = X.alloc (.cells #[.slice none 0 0, Value.func (Fn.func 51) #[] #[.pointer (some ⟨B, 0, none⟩)]] 61) := ⟨_, rfl⟩
  rw [← hw3] at hB3 hB03 hB13 hE3 hc3 hEX
  rw [← hN3] at hB3
  have hB0X := hB0.ext hE
  have k0 := hB0X.cell 0 (by simp)
  have k1 := hB0X.cell 1 (by simp)
  have k2 := hB0X.cell 2 (by simp)
  have k3 := hB0X.cell 3 (by simp)
  have k4 := hB0X.cell 4 (by simp)
  have k5 := hB0X.cell 5 (by simp)
  simp only [List.getElem?_cons_zero, List.getElem?_cons_succ] at k0 k1 k2 k3 k4 k5
  have hr30 := True.intro
  skip
  have HN := Lib.hid hN
  rw [← hN]
  clear hN
  have H3 := Lib.hid (And.intro hw3 (And.intro hN3 (And.intro hB03 (And.intro hB13 (And.intro hE3 (And.intro hc3 (And.intro hr30 hB3)))))))
  clear hB0 hB1 hE0 hB3 hB03 hB13 hE3 hc3 hr30 hw3 hN3 hE hc hEX H0 hFV hB0X
  go_wp2_with fail
  rw [← H3.out.1]
  clear k0 k1 k2 k3 k4 k5
  have hB03 := H3.out.2.2.1
  have hB13 := H3.out.2.2.2.1
  have hB3 := H3.out.2.2.2.2.2.2.2
  have k0 := hB03.cell 0 (by simp)
  have k1 := hB03.cell 1 (by simp)
  have k2 := hB03.cell 2 (by simp)
  have k3 := hB03.cell 3 (by simp)
  have k4 := hB03.cell 4 (by simp)
  have k5 := hB03.cell 5 (by simp)
  simp only [List.getElem?_cons_zero, List.getElem?_cons_succ] at k0 k1 k2 k3 k4 k5
  have m0 := hB13.cell 0 (by simp)
  have m1 := hB13.cell 1 (by simp)
  have m2 := hB13.cell 2 (by simp)
  have m3 := hB13.cell 3 (by simp)
  have m4 := hB13.cell 4 (by simp)
  have m5 := hB13.cell 5 (by simp)
  simp only [List.getElem?_cons_zero, List.getElem?_cons_succ] at m0 m1 m2 m3 m4 m5
  have hc30 := hB3.cell 0 (by simp)
  have hc31 := hB3.cell 1 (by simp)
  simp only [List.getElem?_cons_zero, List.getElem?_cons_succ] at hc30 hc31
  have hf1 := hB13.free
  clear hB03 hB13 hB3
  refine (into1_any r B 0 _ H3.out.2.2.2.2.2.1).mono ?_
  rintro e w5 ⟨rfl, hE5⟩
  have hB13 := H3.out.2.2.2.1
  have hE3 := H3.out.2.2.2.2.1
  have hB14 := hB13.ext hE5
  have hE6 := hE3.trans hE5
  have n0 := hB14.cell 0 (by simp)
  have n1 := hB14.cell 1 (by simp)
  have n2 := hB14.cell 2 (by simp)
  have n3 := hB14.cell 3 (by simp)
  have n4 := hB14.cell 4 (by simp)
  have n5 := hB14.cell 5 (by simp)
  simp only [List.getElem?_cons_zero, List.getElem?_cons_succ] at n0 n1 n2 n3 n4 n5
  have hf14 := hB14.free
  have hl14 := hB14.lt
  have hb14 := hB14.base
  have H6 := Lib.hid hE6
  clear hE5 hB13 hE3 hB14 hE6 k0 k1 k2 k3 k4 k5 m0 m1 m2 m3 m4 m5 hc30 hc31 hf1 H3
  go_wp2
  refine bodyPost_ret (v := (.tuple #[rv (at_ 0), .int .i64 0])) (by simp [results, Try.results21, go_sem, n0, n1, n2, n3, n4, n5]) rfl ?_
  refine ⟨rfl, ?_⟩
  have hE6 := H6.out
  have hw1 : w.heap.size ≤ N + 1 := by have := HN.out; omega
  iterate 6 (refine Ext.setCell ?_ hw1 _)
  exact hE6
set_option maxHeartbeats 1000000 in
theorem cmd_0 (r : Ro) (n : Int) (w : World) (h : ¬ (1 ≤ n ∧ n ≤ 6)) : Calls Try.prog 21 #[rv r, .int .i64 n] w fun e w' => e = .returned (.tuple #[rv (at_ 0), .int .i64 1]) ∧ Ext w w' := by
  have C0 := Lib.hid (fun w => cof_0 n w h)
  clear h
  have hB0 := (Box.new (N := w.heap.size) w #[.int .i64 r.s, .int .i64 r.g, .int .i64 r.h, .int .i64 r.t, .int .i64 r.e, .int .i64 r.a] 28 _ (Nat.le_refl _) rfl).ext ((Ext.refl _).alloc (.cells #[.int .i64 0, .int .i64 0, .int .i64 0, .int .i64 0, .int .i64 0, .int .i64 0] 28))
  have hB1 := Box.new (N := w.heap.size) (w.alloc (.cells #[.int .i64 r.s, .int .i64 r.g, .int .i64 r.h, .int .i64 r.t, .int .i64 r.e, .int .i64 r.a] 28)) #[.int .i64 0, .int .i64 0, .int .i64 0, .int .i64 0, .int .i64 0, .int .i64 0] 28 _ (by simp) rfl
  have hE0 := ((Ext.refl w).alloc (.cells #[.int .i64 r.s, .int .i64 r.g, .int .i64 r.h, .int .i64 r.t, .int .i64 r.e, .int .i64 r.a] 28)).alloc (.cells #[.int .i64 0, .int .i64 0, .int .i64 0, .int .i64 0, .int .i64 0, .int .i64 0] 28)
  rw [World.size_alloc] at hB1
  obtain ⟨N, hN⟩ : ∃ N, N = w.heap.size := ⟨_, rfl⟩
  rw [← hN] at hB0 hB1
  have H0 := Lib.hid (And.intro hB0 (And.intro hB1 (And.intro hE0 hN)))
  clear hB0 hB1 hE0 hN
  go_enter Try.func21, Try.ntmps21
  go_wp2_with fail
  refine (C0.out _).mono ?_
  rintro e X ⟨rfl, hE⟩
  obtain ⟨hB0, hB1, hE0, hN⟩ := H0.out
  have hB1X := hB1.ext hE
  have hl1 := hB1X.lt
  have hf1 := hB1X.free
  have m0 := hB1X.cell 0 (by simp)
  have m1 := hB1X.cell 1 (by simp)
  have m2 := hB1X.cell 2 (by simp)
  have m3 := hB1X.cell 3 (by simp)
  have m4 := hB1X.cell 4 (by simp)
  have m5 := hB1X.cell 5 (by simp)
  simp only [List.getElem?_cons_zero, List.getElem?_cons_succ] at m0 m1 m2 m3 m4 m5
  have HE := Lib.hid (And.intro (hE0.trans hE) (And.intro hN hB1X))
  rw [← hN]
  clear hB0 hB1 hE0 hN hB1X hE H0
  go_wp2
  have hZ := ((((((HE.out.2.2.set_ 0 (.int .i64 0) (by simp)).set_ 1 (.int .i64 0) (by simp)).set_ 2 (.int .i64 0) (by simp)).set_ 3 (.int .i64 0) (by simp)).set_ 4 (.int .i64 0) (by simp)).set_ 5 (.int .i64 0) (by simp)).ext ((Ext.refl _).alloc (.cells #[.slice none 0 0, .nilFunc] 61))
  have z0 := hZ.cell 0 (by simp)
  have z1 := hZ.cell 1 (by simp)
  have z2 := hZ.cell 2 (by simp)
  have z3 := hZ.cell 3 (by simp)
  have z4 := hZ.cell 4 (by simp)
  have z5 := hZ.cell 5 (by simp)
  simp only [List.set_cons_zero, List.set_cons_succ, List.getElem?_cons_zero, List.getElem?_cons_succ] at z0 z1 z2 z3 z4 z5
  clear m0 m1 m2 m3 m4 m5
  refine bodyPost_ret (v := (.tuple #[.agg #[.int .i64 0, .int .i64 0, .int .i64 0, .int .i64 0, .int .i64 0, .int .i64 0], .int .i64 1])) (by simp [results, Try.results21, go_sem, z0, z1, z2, z3, z4, z5]) rfl ?_
  refine ⟨rfl, ?_⟩
  have hE9 := HE.out.1
  have hN9 := HE.out.2.1
  repeat' (first | with_reducible assumption | with_reducible exact Ext.refl _ | with_reducible apply Ext.alloc | with_reducible apply Ext.drew | with_reducible apply Ext.drewN | with_reducible apply Ext.plus_ | with_reducible refine Ext.put ?_ (by omega))

theorem command_any (r : Ro) (n : Int) (w : World) : Calls Try.prog 21 #[rv r, .int .i64 n] w fun e w' => e = .returned (.tuple #[rv (cmdR r n).1, .int .i64 (cmdR r n).2]) ∧ Ext w w' := by
  by_cases h1 : n = 1
  · subst h1
    by_cases hs : r.s = 0
    · rw [show cmdR r 1 = (at_ 1, 0) by simp [cmdR, hs]]; exact cmd_1_yes r w (by simp [hs])
    · rw [show cmdR r 1 = (at_ 0, 7) by simp [cmdR, hs]]; exact cmd_1_no r w (by simp [hs])
  by_cases h2 : n = 2
  · subst h2
    by_cases hs : r.s = 1
    · rw [show cmdR r 2 = (⟨4, r.g, r.h, r.t, r.e, r.a⟩, 0) by simp [cmdR, hs]]; exact cmd_2_yes r w (by simp [hs])
    · rw [show cmdR r 2 = (at_ 0, 7) by simp [cmdR, hs]]; exact cmd_2_no r w (by simp [hs])
  by_cases h3 : n = 3
  · subst h3
    by_cases hs : r.s = 4
    · rw [show cmdR r 3 = (⟨1, r.g, r.h, r.t, r.e, r.a⟩, 0) by simp [cmdR, hs]]; exact cmd_3_yes r w (by simp [hs])
    · rw [show cmdR r 3 = (at_ 0, 7) by simp [cmdR, hs]]; exact cmd_3_no r w (by simp [hs])
  by_cases h4 : n = 4
  · subst h4
    by_cases hs : r.s = 1 ∨ r.s = 4
    · rw [show cmdR r 4 = (at_ 2, 0) by simp [cmdR, hs]]; exact cmd_4_yes r w (by simpa using hs)
    · rw [show cmdR r 4 = (at_ 0, 7) by simp [cmdR, hs]]; exact cmd_4_no r w (by simpa using hs)
  by_cases h5 : n = 5
  · subst h5
    by_cases hs : r.s = 1 ∨ r.s = 4 ∨ r.s = 2
    · rw [show cmdR r 5 = (at_ 3, 0) by simp [cmdR, hs]]; exact cmd_5_yes r w (by simpa using hs)
    · rw [show cmdR r 5 = (at_ 0, 7) by simp [cmdR, hs]]; exact cmd_5_no r w (by simpa using hs)
  by_cases h6 : n = 6
  · subst h6
    rw [show cmdR r 6 = (at_ 0, 0) by simp [cmdR]]; exact cmd_6 r w
  rw [show cmdR r n = (at_ 0, 1) by unfold cmdR; rw [if_neg h1, if_neg h2, if_neg h3, if_neg h4, if_neg h5, if_neg h6]]
  exact cmd_0 r n w (by omega)
end Go.Proofs.Ytidndcigloohoaa
