/- Rollouts: what the functions compute, and the commands. -/
import Derived.Test.YtidndcigloohoaaPlanUse
import Derived.Test.YtidndcigloohoaaVerdict
import Derived.Test.YtidndcigloohoaaCount
import Derived.Laws.EntriesVeiled
set_option linter.unusedVariables false
namespace Go.Proofs.Ytidndcigloohoaa
open Go.RowKit Go.Rg

/-- A rollout. -/
structure Ro where
  s : Int
  g : Int
  h : Int
  t : Int
  e : Int
  a : Int
abbrev rv (r : Ro) : Value := .agg #[.int .i64 r.s, .int .i64 r.g, .int .i64 r.h, .int .i64 r.t, .int .i64 r.e, .int .i64 r.a]
/-- A state in which everything else is zero. -/
def at_ (s : Int) : Ro := ⟨s, 0, 0, 0, 0, 0⟩
/-- Command: the rollout and the error. -/
def cmdR (r : Ro) (n : Int) : Ro × Int :=
  if n = 1 then (if r.s = 0 then (at_ 1, 0) else (at_ 0, 7))
  else if n = 2 then (if r.s = 1 then (⟨4, r.g, r.h, r.t, r.e, r.a⟩, 0) else (at_ 0, 7))
  else if n = 3 then (if r.s = 4 then (⟨1, r.g, r.h, r.t, r.e, r.a⟩, 0) else (at_ 0, 7))
  else if n = 4 then (if r.s = 1 ∨ r.s = 4 then (at_ 2, 0) else (at_ 0, 7))
  else if n = 5 then (if r.s = 1 ∨ r.s = 4 ∨ r.s = 2 then (at_ 3, 0) else (at_ 0, 7))
  else if n = 6 then (at_ 0, 0)
  else (at_ 0, 1)


set_option maxHeartbeats 1000000 in
theorem index_any (A : Option Addr) (n c : Nat) (l : List Int) (s : Int) (w : World) (hr : Row w w.heap.size 1 A n (ints l)) (hn : n ≤ 9223372036854775807) :
    Calls Try.prog 47 #[.slice A n c, .int .i64 s] w fun e w' => ∃ k : Int, e = .returned (.int .i64 k) ∧ (0 ≤ k ↔ s ∈ l) ∧ k ≤ n ∧ -1 ≤ k ∧ w = w' := by
  have hl := ints_len hr
  have HR := Lib.hid hr
  have HL := Lib.hid hl
  clear hr hl
  go_enter Try.func47, Try.ntmps47
  go_wp2
  go_loop [8] (fun i => ∃ k : Nat, k ≤ n ∧ i = .int .i64 k ∧ ∀ j, j < k → l[j]? ≠ some s) (fun i => n - (intOf i).toNat)
  case atStart => exact ⟨0, Nat.zero_le _, rfl, fun j hj => absurd hj (by omega)⟩
  case round =>
    obtain ⟨k, hk, rfl, hno⟩ := hrel
    by_cases hlt : k < n
    · obtain ⟨b, o, z, rfl, hb, hz, hcell⟩ := HR.out.int_at hlt
      have HN := Lib.hid (And.intro hno hz)
      clear hno hz
      by_cases hs : s = z
      · subst hs
        go_wp2
        go_ret
        exact ⟨k, rfl, ⟨fun _ => List.mem_of_getElem? HN.out.2, fun _ => by omega⟩, by omega, by omega, rfl⟩
      · go_wp2
        go_round
        case rel => exact ⟨k + 1, by omega, by go_num, fun j hj => by
          rcases Nat.lt_or_ge j k with h | h
          · exact HN.out.1 j h
          · obtain rfl : j = k := by omega
            rw [HN.out.2]
            intro q
            injection q with q
            exact hs q.symm⟩
        case measure => simp [intOf]; omega
    · have HN := Lib.hid hno
      clear hno
      go_wp2
      go_ret
      refine ⟨-1, rfl, ⟨fun h => absurd h (by omega), fun h => ?_⟩, by omega, by omega, rfl⟩
      obtain ⟨j, hj, e⟩ := List.getElem_of_mem h
      exact absurd (List.getElem?_eq_some_iff.2 ⟨hj, e⟩) (HN.out j (by have := HL.out; omega))
theorem contains_any (A : Option Addr) (n c : Nat) (l : List Int) (s : Int) (w : World) (hr : Row w w.heap.size 1 A n (ints l)) (hn : n ≤ 9223372036854775807) :
    Calls Try.prog 36 #[.slice A n c, .int .i64 s] w fun e w' => e = .returned (.bool (decide (s ∈ l))) ∧ w = w' := by
  have C := Lib.hid (index_any A n c l s w hr hn)
  clear hr
  go_enter Try.func36, Try.ntmps36
  go_wp2_with fail
  refine C.out.mono ?_
  rintro e w' ⟨k, rfl, hk, hk1, hk2, rfl⟩
  have HK := Lib.hid hk
  clear hk
  by_cases h0 : 0 ≤ k
  · go_wp2
    go_ret
    exact ⟨congrArg (fun b => Ending.returned (.bool b)) (decide_eq_true (HK.out.1 h0)).symm, rfl⟩
  · go_wp2
    go_ret
    exact ⟨congrArg (fun b => Ending.returned (.bool b)) ((decide_eq_false (by omega)).trans (decide_eq_false (fun h => by have := HK.out.2 h; omega)).symm), rfl⟩

/-! ### The closures -/
theorem into1_any (r : Ro) (B : Nat) (st : Int) (w : World) (hc : w.cell? ⟨B, 0, none⟩ = some (.int .i64 st)) :
    Calls Try.prog 51 #[rv r, .pointer (some ⟨B, 0, none⟩)] w fun e w' => e = .returned (rv (at_ st)) ∧ Ext w w' := by
  obtain ⟨s, g, h, t, e, a⟩ := r
  go_enter Try.func51, Try.ntmps51
  go_wp2
  refine bodyPost_ret (v := (.agg #[.int .i64 st, .int .i64 0, .int .i64 0, .int .i64 0, .int .i64 0, .int .i64 0])) (by simp [results, Try.results51, go_sem]) rfl ?_
  refine ⟨rfl, ?_⟩
  repeat (first | exact Ext.refl _ | apply Ext.drew | apply Ext.drewN | apply Ext.plus_ | apply Ext.alloc | assumption)
theorem change1_any (r : Ro) (B : Nat) (st : Int) (w : World) (hc : w.cell? ⟨B, 0, none⟩ = some (.int .i64 st)) :
    Calls Try.prog 52 #[rv r, .pointer (some ⟨B, 0, none⟩)] w fun e w' => e = .returned (rv ⟨st, r.g, r.h, r.t, r.e, r.a⟩) ∧ Ext w w' := by
  obtain ⟨s, g, h, t, e, a⟩ := r
  go_enter Try.func52, Try.ntmps52
  go_wp2
  refine bodyPost_ret (v := (rv ⟨st, g, h, t, e, a⟩)) (by simp [results, Try.results52, go_sem]) rfl ?_
  refine ⟨rfl, ?_⟩
  repeat (first | exact Ext.refl _ | apply Ext.drew | apply Ext.drewN | apply Ext.plus_ | apply Ext.alloc | assumption)
theorem into_any (st : Int) (w : World) : Calls Try.prog 45 #[.int .i64 st] w fun e w' => ∃ B, e = .returned (.func (Fn.func 51) #[] #[.pointer (some ⟨B, 0, none⟩)]) ∧ w'.cell? ⟨B, 0, none⟩ = some (.int .i64 st) ∧ Ext w w' := by
  have hB := Box.new (N := w.heap.size) w #[.int .i64 st] 3 _ (Nat.le_refl _) rfl
  have H := Lib.hid hB
  clear hB
  go_enter Try.func45, Try.ntmps45
  go_wp2
  go_ret
  exact ⟨w.heap.size, rfl, by rw [H.out.cell 0 (by simp)]; rfl, (Ext.refl w).alloc _⟩
theorem change_any (st : Int) (w : World) : Calls Try.prog 46 #[.int .i64 st] w fun e w' => ∃ B, e = .returned (.func (Fn.func 52) #[] #[.pointer (some ⟨B, 0, none⟩)]) ∧ w'.cell? ⟨B, 0, none⟩ = some (.int .i64 st) ∧ Ext w w' := by
  have hB := Box.new (N := w.heap.size) w #[.int .i64 st] 3 _ (Nat.le_refl _) rfl
  have H := Lib.hid hB
  clear hB
  go_enter Try.func46, Try.ntmps46
  go_wp2
  go_ret
  exact ⟨w.heap.size, rfl, by rw [H.out.cell 0 (by simp)]; rfl, (Ext.refl w).alloc _⟩

theorem cells_row {w : World} {b : Nat} {zs : List Int} (h : Cells w b (ints zs)) : Row w w.heap.size 1 (some ⟨b, 0, none⟩) zs.length (ints zs) := ⟨by simp, fun _ => ⟨b, 0, rfl, h.1, fun j u hu => by simpa using h.2 j u hu⟩⟩
/-! ### Commands -/
/-- What commandOf gives for a command: the states in which it is possible, and the closure. -/
def CofPost (w : World) (fn : Nat) (fs : List Int) (st : Int) (e : Ending) (w' : World) : Prop :=
  ∃ b B, e = .returned (.tuple #[.agg #[.slice (some ⟨b, 0, none⟩) fs.length fs.length, .func (Fn.func fn) #[] #[.pointer (some ⟨B, 0, none⟩)]], .bool true]) ∧ Cells w' b (ints fs) ∧ w'.cell? ⟨B, 0, none⟩ = some (.int .i64 st) ∧ Ext w w'
set_option maxHeartbeats 1000000 in
theorem cof_1 (w : World) : Calls Try.prog 35 #[.int .i64 1] w (CofPost w 51 [0] 1) := by
  go_enter Try.func35, Try.ntmps35
  go_wp2_with fail
  have hB := ((Box.new (N := w.heap.size) w #[.slice none 0 0, .nilFunc] 61 _ (Nat.le_refl _) rfl)).ext ((Ext.refl _).alloc (.cells #[.int .i64 0] 3))
  have hR := Cells.new (w.alloc (.cells #[.slice none 0 0, .nilFunc] 61)) #[.int .i64 0] 3 _ rfl
  have hE0 := ((Ext.refl w).alloc (.cells #[.slice none 0 0, .nilFunc] 61)).alloc (.cells #[.int .i64 0] 3)
  refine (into_any 1 _).mono ?_
  rintro e X ⟨B, rfl, hc, hE⟩
  have hB1 := hB.ext hE
  have hR1 := hR.ext hE
  have hE1 := hE0.trans hE
  clear hB hR hE0 hE
  obtain ⟨N, hN⟩ : ∃ N, N = w.heap.size := ⟨_, rfl⟩
  rw [← hN] at hB1 ⊢
  have hlb := heap_lt_of_isSome (w := X) (a := ⟨B, 0, none⟩) (by rw [hc]; rfl)
  have hNB : B ≠ N := fun e => by subst e; have := hB1.cell 0 (by simp); rw [hc] at this; cases this
  have hNb : w.heap.size + 1 ≠ N := by omega
  have hB0 := hB1.cell 0 (by simp)
  have hB2 := hB1.cell 1 (by simp)
  simp only [List.getElem?_cons_zero, List.getElem?_cons_succ] at hB0 hB2
  have hf := hB1.free
  have hl := hB1.lt
  have hb := hB1.base
  have H := Lib.hid (And.intro hR1 (And.intro hc (And.intro hE1 (And.intro hNB hNb))))
  have HN := Lib.hid hN
  rw [show w.heap.size + 1 = N + 1 by omega] at H
  clear hN hR1 hc hE1 hB1 hlb hNB hNb
  go_wp2
  refine bodyPost_ret (v := (.tuple #[.agg #[.slice (some ⟨N + 1, 0, none⟩) 1 1, .func (Fn.func 51) #[] #[.pointer (some ⟨B, 0, none⟩)]], .bool true])) (by simp [results, Try.results35, go_sem, hB0, hB2]) rfl ?_
  obtain ⟨hR1, hc, hE1, hNB, hNb⟩ := H.out
  have hNB' : N ≠ B := fun e => hNB e.symm
  refine ⟨N + 1, B, rfl, ⟨by have := hR1.1; rw [World.size_alloc, ← HN.out] at this; simpa using this, fun j u hu => ?_⟩, ?_, (hE1.setCell (p := ⟨N, 0, none⟩) (Nat.le_of_eq HN.out.symm) _).setCell (p := ⟨N, 1, none⟩) (Nat.le_of_eq HN.out.symm) _⟩
  · rw [World.cell?_setCell_other _ _ _ _ (by simp), World.cell?_setCell_other _ _ _ _ (by simp)]
    have := hR1.2 j u hu
    rw [World.size_alloc, ← HN.out] at this
    exact this
  · rw [World.cell?_setCell_other _ _ _ _ (by simp [hNB']), World.cell?_setCell_other _ _ _ _ (by simp [hNB'])]
    exact hc
set_option maxHeartbeats 1000000 in
theorem cof_2 (w : World) : Calls Try.prog 35 #[.int .i64 2] w (CofPost w 52 [1] 4) := by
  go_enter Try.func35, Try.ntmps35
  go_wp2_with fail
  have hB := ((Box.new (N := w.heap.size) w #[.slice none 0 0, .nilFunc] 61 _ (Nat.le_refl _) rfl)).ext ((Ext.refl _).alloc (.cells #[.int .i64 1] 3))
  have hR := Cells.new (w.alloc (.cells #[.slice none 0 0, .nilFunc] 61)) #[.int .i64 1] 3 _ rfl
  have hE0 := ((Ext.refl w).alloc (.cells #[.slice none 0 0, .nilFunc] 61)).alloc (.cells #[.int .i64 1] 3)
  refine (change_any 4 _).mono ?_
  rintro e X ⟨B, rfl, hc, hE⟩
  have hB1 := hB.ext hE
  have hR1 := hR.ext hE
  have hE1 := hE0.trans hE
  clear hB hR hE0 hE
  obtain ⟨N, hN⟩ : ∃ N, N = w.heap.size := ⟨_, rfl⟩
  rw [← hN] at hB1 ⊢
  have hlb := heap_lt_of_isSome (w := X) (a := ⟨B, 0, none⟩) (by rw [hc]; rfl)
  have hNB : B ≠ N := fun e => by subst e; have := hB1.cell 0 (by simp); rw [hc] at this; cases this
  have hNb : w.heap.size + 1 ≠ N := by omega
  have hB0 := hB1.cell 0 (by simp)
  have hB2 := hB1.cell 1 (by simp)
  simp only [List.getElem?_cons_zero, List.getElem?_cons_succ] at hB0 hB2
  have hf := hB1.free
  have hl := hB1.lt
  have hb := hB1.base
  have H := Lib.hid (And.intro hR1 (And.intro hc (And.intro hE1 (And.intro hNB hNb))))
  have HN := Lib.hid hN
  rw [show w.heap.size + 1 = N + 1 by omega] at H
  clear hN hR1 hc hE1 hB1 hlb hNB hNb
  go_wp2
  refine bodyPost_ret (v := (.tuple #[.agg #[.slice (some ⟨N + 1, 0, none⟩) 1 1, .func (Fn.func 52) #[] #[.pointer (some ⟨B, 0, none⟩)]], .bool true])) (by simp [results, Try.results35, go_sem, hB0, hB2]) rfl ?_
  obtain ⟨hR1, hc, hE1, hNB, hNb⟩ := H.out
  have hNB' : N ≠ B := fun e => hNB e.symm
  refine ⟨N + 1, B, rfl, ⟨by have := hR1.1; rw [World.size_alloc, ← HN.out] at this; simpa using this, fun j u hu => ?_⟩, ?_, (hE1.setCell (p := ⟨N, 0, none⟩) (Nat.le_of_eq HN.out.symm) _).setCell (p := ⟨N, 1, none⟩) (Nat.le_of_eq HN.out.symm) _⟩
  · rw [World.cell?_setCell_other _ _ _ _ (by simp), World.cell?_setCell_other _ _ _ _ (by simp)]
    have := hR1.2 j u hu
    rw [World.size_alloc, ← HN.out] at this
    exact this
  · rw [World.cell?_setCell_other _ _ _ _ (by simp [hNB']), World.cell?_setCell_other _ _ _ _ (by simp [hNB'])]
    exact hc
set_option maxHeartbeats 1000000 in
theorem cof_3 (w : World) : Calls Try.prog 35 #[.int .i64 3] w (CofPost w 52 [4] 1) := by
  go_enter Try.func35, Try.ntmps35
  go_wp2_with fail
  have hB := ((Box.new (N := w.heap.size) w #[.slice none 0 0, .nilFunc] 61 _ (Nat.le_refl _) rfl)).ext ((Ext.refl _).alloc (.cells #[.int .i64 4] 3))
  have hR := Cells.new (w.alloc (.cells #[.slice none 0 0, .nilFunc] 61)) #[.int .i64 4] 3 _ rfl
  have hE0 := ((Ext.refl w).alloc (.cells #[.slice none 0 0, .nilFunc] 61)).alloc (.cells #[.int .i64 4] 3)
  refine (change_any 1 _).mono ?_
  rintro e X ⟨B, rfl, hc, hE⟩
  have hB1 := hB.ext hE
  have hR1 := hR.ext hE
  have hE1 := hE0.trans hE
  clear hB hR hE0 hE
  obtain ⟨N, hN⟩ : ∃ N, N = w.heap.size := ⟨_, rfl⟩
  rw [← hN] at hB1 ⊢
  have hlb := heap_lt_of_isSome (w := X) (a := ⟨B, 0, none⟩) (by rw [hc]; rfl)
  have hNB : B ≠ N := fun e => by subst e; have := hB1.cell 0 (by simp); rw [hc] at this; cases this
  have hNb : w.heap.size + 1 ≠ N := by omega
  have hB0 := hB1.cell 0 (by simp)
  have hB2 := hB1.cell 1 (by simp)
  simp only [List.getElem?_cons_zero, List.getElem?_cons_succ] at hB0 hB2
  have hf := hB1.free
  have hl := hB1.lt
  have hb := hB1.base
  have H := Lib.hid (And.intro hR1 (And.intro hc (And.intro hE1 (And.intro hNB hNb))))
  have HN := Lib.hid hN
  rw [show w.heap.size + 1 = N + 1 by omega] at H
  clear hN hR1 hc hE1 hB1 hlb hNB hNb
  go_wp2
  refine bodyPost_ret (v := (.tuple #[.agg #[.slice (some ⟨N + 1, 0, none⟩) 1 1, .func (Fn.func 52) #[] #[.pointer (some ⟨B, 0, none⟩)]], .bool true])) (by simp [results, Try.results35, go_sem, hB0, hB2]) rfl ?_
  obtain ⟨hR1, hc, hE1, hNB, hNb⟩ := H.out
  have hNB' : N ≠ B := fun e => hNB e.symm
  refine ⟨N + 1, B, rfl, ⟨by have := hR1.1; rw [World.size_alloc, ← HN.out] at this; simpa using this, fun j u hu => ?_⟩, ?_, (hE1.setCell (p := ⟨N, 0, none⟩) (Nat.le_of_eq HN.out.symm) _).setCell (p := ⟨N, 1, none⟩) (Nat.le_of_eq HN.out.symm) _⟩
  · rw [World.cell?_setCell_other _ _ _ _ (by simp), World.cell?_setCell_other _ _ _ _ (by simp)]
    have := hR1.2 j u hu
    rw [World.size_alloc, ← HN.out] at this
    exact this
  · rw [World.cell?_setCell_other _ _ _ _ (by simp [hNB']), World.cell?_setCell_other _ _ _ _ (by simp [hNB'])]
    exact hc
set_option maxHeartbeats 1000000 in
theorem cof_4 (w : World) : Calls Try.prog 35 #[.int .i64 4] w (CofPost w 51 [1, 4] 2) := by
  go_enter Try.func35, Try.ntmps35
  go_wp2_with fail
  have hB := ((Box.new (N := w.heap.size) w #[.slice none 0 0, .nilFunc] 61 _ (Nat.le_refl _) rfl)).ext ((Ext.refl _).alloc (.cells #[.int .i64 1, .int .i64 4] 3))
  have hR := Cells.new (w.alloc (.cells #[.slice none 0 0, .nilFunc] 61)) #[.int .i64 1, .int .i64 4] 3 _ rfl
  have hE0 := ((Ext.refl w).alloc (.cells #[.slice none 0 0, .nilFunc] 61)).alloc (.cells #[.int .i64 1, .int .i64 4] 3)
  refine (into_any 2 _).mono ?_
  rintro e X ⟨B, rfl, hc, hE⟩
  have hB1 := hB.ext hE
  have hR1 := hR.ext hE
  have hE1 := hE0.trans hE
  clear hB hR hE0 hE
  obtain ⟨N, hN⟩ : ∃ N, N = w.heap.size := ⟨_, rfl⟩
  rw [← hN] at hB1 ⊢
  have hlb := heap_lt_of_isSome (w := X) (a := ⟨B, 0, none⟩) (by rw [hc]; rfl)
  have hNB : B ≠ N := fun e => by subst e; have := hB1.cell 0 (by simp); rw [hc] at this; cases this
  have hNb : w.heap.size + 1 ≠ N := by omega
  have hB0 := hB1.cell 0 (by simp)
  have hB2 := hB1.cell 1 (by simp)
  simp only [List.getElem?_cons_zero, List.getElem?_cons_succ] at hB0 hB2
  have hf := hB1.free
  have hl := hB1.lt
  have hb := hB1.base
  have H := Lib.hid (And.intro hR1 (And.intro hc (And.intro hE1 (And.intro hNB hNb))))
  have HN := Lib.hid hN
  rw [show w.heap.size + 1 = N + 1 by omega] at H
  clear hN hR1 hc hE1 hB1 hlb hNB hNb
  go_wp2
  refine bodyPost_ret (v := (.tuple #[.agg #[.slice (some ⟨N + 1, 0, none⟩) 2 2, .func (Fn.func 51) #[] #[.pointer (some ⟨B, 0, none⟩)]], .bool true])) (by simp [results, Try.results35, go_sem, hB0, hB2]) rfl ?_
  obtain ⟨hR1, hc, hE1, hNB, hNb⟩ := H.out
  have hNB' : N ≠ B := fun e => hNB e.symm
  refine ⟨N + 1, B, rfl, ⟨by have := hR1.1; rw [World.size_alloc, ← HN.out] at this; simpa using this, fun j u hu => ?_⟩, ?_, (hE1.setCell (p := ⟨N, 0, none⟩) (Nat.le_of_eq HN.out.symm) _).setCell (p := ⟨N, 1, none⟩) (Nat.le_of_eq HN.out.symm) _⟩
  · rw [World.cell?_setCell_other _ _ _ _ (by simp), World.cell?_setCell_other _ _ _ _ (by simp)]
    have := hR1.2 j u hu
    rw [World.size_alloc, ← HN.out] at this
    exact this
  · rw [World.cell?_setCell_other _ _ _ _ (by simp [hNB']), World.cell?_setCell_other _ _ _ _ (by simp [hNB'])]
    exact hc
set_option maxHeartbeats 1000000 in
theorem cof_5 (w : World) : Calls Try.prog 35 #[.int .i64 5] w (CofPost w 51 [1, 4, 2] 3) := by
  go_enter Try.func35, Try.ntmps35
  go_wp2_with fail
  have hB := ((Box.new (N := w.heap.size) w #[.slice none 0 0, .nilFunc] 61 _ (Nat.le_refl _) rfl)).ext ((Ext.refl _).alloc (.cells #[.int .i64 1, .int .i64 4, .int .i64 2] 3))
  have hR := Cells.new (w.alloc (.cells #[.slice none 0 0, .nilFunc] 61)) #[.int .i64 1, .int .i64 4, .int .i64 2] 3 _ rfl
  have hE0 := ((Ext.refl w).alloc (.cells #[.slice none 0 0, .nilFunc] 61)).alloc (.cells #[.int .i64 1, .int .i64 4, .int .i64 2] 3)
  refine (into_any 3 _).mono ?_
  rintro e X ⟨B, rfl, hc, hE⟩
  have hB1 := hB.ext hE
  have hR1 := hR.ext hE
  have hE1 := hE0.trans hE
  clear hB hR hE0 hE
  obtain ⟨N, hN⟩ : ∃ N, N = w.heap.size := ⟨_, rfl⟩
  rw [← hN] at hB1 ⊢
  have hlb := heap_lt_of_isSome (w := X) (a := ⟨B, 0, none⟩) (by rw [hc]; rfl)
  have hNB : B ≠ N := fun e => by subst e; have := hB1.cell 0 (by simp); rw [hc] at this; cases this
  have hNb : w.heap.size + 1 ≠ N := by omega
  have hB0 := hB1.cell 0 (by simp)
  have hB2 := hB1.cell 1 (by simp)
  simp only [List.getElem?_cons_zero, List.getElem?_cons_succ] at hB0 hB2
  have hf := hB1.free
  have hl := hB1.lt
  have hb := hB1.base
  have H := Lib.hid (And.intro hR1 (And.intro hc (And.intro hE1 (And.intro hNB hNb))))
  have HN := Lib.hid hN
  rw [show w.heap.size + 1 = N + 1 by omega] at H
  clear hN hR1 hc hE1 hB1 hlb hNB hNb
  go_wp2
  refine bodyPost_ret (v := (.tuple #[.agg #[.slice (some ⟨N + 1, 0, none⟩) 3 3, .func (Fn.func 51) #[] #[.pointer (some ⟨B, 0, none⟩)]], .bool true])) (by simp [results, Try.results35, go_sem, hB0, hB2]) rfl ?_
  obtain ⟨hR1, hc, hE1, hNB, hNb⟩ := H.out
  have hNB' : N ≠ B := fun e => hNB e.symm
  refine ⟨N + 1, B, rfl, ⟨by have := hR1.1; rw [World.size_alloc, ← HN.out] at this; simpa using this, fun j u hu => ?_⟩, ?_, (hE1.setCell (p := ⟨N, 0, none⟩) (Nat.le_of_eq HN.out.symm) _).setCell (p := ⟨N, 1, none⟩) (Nat.le_of_eq HN.out.symm) _⟩
  · rw [World.cell?_setCell_other _ _ _ _ (by simp), World.cell?_setCell_other _ _ _ _ (by simp)]
    have := hR1.2 j u hu
    rw [World.size_alloc, ← HN.out] at this
    exact this
  · rw [World.cell?_setCell_other _ _ _ _ (by simp [hNB']), World.cell?_setCell_other _ _ _ _ (by simp [hNB'])]
    exact hc
set_option maxHeartbeats 1000000 in
theorem cof_6 (w : World) : Calls Try.prog 35 #[.int .i64 6] w fun e w' => ∃ B, e = .returned (.tuple #[.agg #[.slice none 0 0, .func (Fn.func 51) #[] #[.pointer (some ⟨B, 0, none⟩)]], .bool true]) ∧ w'.cell? ⟨B, 0, none⟩ = some (.int .i64 0) ∧ Ext w w' := by
  go_enter Try.func35, Try.ntmps35
  go_wp2_with fail
  have hB := (Box.new (N := w.heap.size) w #[.slice none 0 0, .nilFunc] 61 _ (Nat.le_refl _) rfl)
  have hE0 := (Ext.refl w).alloc (.cells #[.slice none 0 0, .nilFunc] 61)
  refine (into_any 0 _).mono ?_
  rintro e X ⟨B, rfl, hc, hE⟩
  have hB1 := hB.ext hE
  have hE1 := hE0.trans hE
  clear hB hE0 hE
  obtain ⟨N, hN⟩ : ∃ N, N = w.heap.size := ⟨_, rfl⟩
  rw [← hN] at hB1 ⊢
  have hNB : B ≠ N := fun e => by subst e; have := hB1.cell 0 (by simp); rw [hc] at this; cases this
  have hB0 := hB1.cell 0 (by simp)
  have hB2 := hB1.cell 1 (by simp)
  simp only [List.getElem?_cons_zero, List.getElem?_cons_succ] at hB0 hB2
  have hf := hB1.free
  have hl := hB1.lt
  have H := Lib.hid (And.intro hc (And.intro hE1 hNB))
  have HN := Lib.hid hN
  clear hN hc hE1 hB1 hNB
  go_wp2
  refine bodyPost_ret (v := (.tuple #[.agg #[.slice none 0 0, .func (Fn.func 51) #[] #[.pointer (some ⟨B, 0, none⟩)]], .bool true])) (by simp [results, Try.results35, go_sem, hB0, hB2]) rfl ?_
  obtain ⟨hc, hE1, hNB⟩ := H.out
  have hNB' : N ≠ B := fun e => hNB e.symm
  refine ⟨B, rfl, ?_, (hE1.setCell (p := ⟨N, 0, none⟩) (Nat.le_of_eq HN.out.symm) _).setCell (p := ⟨N, 1, none⟩) (Nat.le_of_eq HN.out.symm) _⟩
  rw [World.cell?_setCell_other _ _ _ _ (by simp [hNB']), World.cell?_setCell_other _ _ _ _ (by simp [hNB'])]
  exact hc
set_option maxHeartbeats 1000000 in
theorem cof_0 (n : Int) (w : World) (h : ¬ (1 ≤ n ∧ n ≤ 6)) : Calls Try.prog 35 #[.int .i64 n] w fun e w' => e = .returned (.tuple #[.agg #[.slice none 0 0, .nilFunc], .bool false]) ∧ Ext w w' := by
  have e1 : (n == 1) = false := by simp; omega
  have e2 : (n == 2) = false := by simp; omega
  have e3 : (n == 3) = false := by simp; omega
  have e4 : (n == 4) = false := by simp; omega
  have e5 : (n == 5) = false := by simp; omega
  have e6 : (n == 6) = false := by simp; omega
  clear h
  go_enter Try.func35, Try.ntmps35
  go_wp2
  refine bodyPost_ret (v := (.tuple #[.agg #[.slice none 0 0, .nilFunc], .bool false])) (by simp [results, Try.results35, go_sem]) rfl ?_
  refine ⟨rfl, ?_⟩
  repeat (first | exact Ext.refl _ | apply Ext.drew | apply Ext.drewN | apply Ext.plus_ | apply Ext.alloc | assumption)

end Go.Proofs.Ytidndcigloohoaa
