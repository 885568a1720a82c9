/- Inputs of rollouts. -/
import Derived.Test.YtidndcigloohoaaSrcPlan
import Derived.Test.YtidndcigloohoaaBoxes
set_option linter.unusedVariables false
namespace Go.Proofs.Ytidndcigloohoaa
open Go.RowKit Go.Rg

abbrev I2 := Int × Int
abbrev cells2 (x : I2) : List Value := [.int .i64 x.1, .int .i64 x.2]
def icells (ws : List I2) : List Value := ws.flatMap cells2
theorem icells_at (ws : List I2) : ∀ (k j : Nat) (x : I2), ws[k]? = some x → j < 2 → (icells ws)[k * 2 + j]? = (cells2 x)[j]? := by
  induction ws with
  | nil => intro k j x h; simp at h
  | cons y ws ih =>
    intro k j x h hj
    cases k with
    | zero =>
      simp at h; subst h
      simp only [icells, List.flatMap_cons]
      rw [List.getElem?_append_left (by simp; omega)]
      simp
    | succ k =>
      have := ih k j x (by simpa using h) hj
      simp only [icells, List.flatMap_cons] at this ⊢
      rw [List.getElem?_append_right (by simp; omega)]
      simp only [List.length_cons, List.length_nil]
      rw [← this]
      congr 1
      omega
theorem icells_len (ws : List I2) : (icells ws).length = ws.length * 2 := by
  induction ws with
  | nil => rfl
  | cons y ws ih => simp only [icells, List.flatMap_cons, List.length_append] at ih ⊢; simp [ih]; omega
theorem icells_snoc (ws : List I2) (k x : Int) : icells ws ++ [.int .i64 k, .int .i64 x] = icells (ws ++ [(k, x)]) := by simp [icells]
theorem Row.inp_at {w : World} {B : Nat} {A : Option Addr} {n : Nat} {ws : List I2} (h : Row w B 2 A n (icells ws)) {k : Nat} (hk : k < n) :
    ∃ b o t e, A = some ⟨b, o, none⟩ ∧ b < B ∧ ws[k]? = some (t, e) ∧ w.cell? ⟨b, o + k * 2, none⟩ = some (.int .i64 t) ∧ w.cell? ⟨b, o + k * 2 + 1, none⟩ = some (.int .i64 e) := by
  obtain ⟨b, o, e, hb, hc⟩ := h.2 (by omega)
  have hl := h.1
  rw [icells_len] at hl
  have hk' : k < ws.length := by omega
  have hat := fun j hj => icells_at ws k j ws[k] (List.getElem?_eq_getElem hk') hj
  refine ⟨b, o, ws[k].1, ws[k].2, e, hb, List.getElem?_eq_getElem hk', ?_, ?_⟩
  · exact hc (k * 2) _ (hat 0 (by omega))
  · exact hc (k * 2 + 1) _ (hat 1 (by omega))
theorem irow_len {w : World} {B n : Nat} {A : Option Addr} {il : List I2} (h : Row w B 2 A n (icells il)) : il.length = n := by have := h.1; rw [icells_len] at this; omega

theorem _root_.Go.Rg.Ext.se {w W W' : World} {s : Nat} (h : Ext w W) (k : SE s W W') (hs : w.heap.size ≤ s) : Ext w W' := by
  obtain ⟨v, hv⟩ := k
  exact (h.put (k := 1) (v := v) hs).trans hv
theorem SE.chain {s : Nat} {w w1 w2 : World} (h : SE s w w1) (k : SE s w1 w2) (hs : s < w.heap.size) : SE s w w2 := by
  obtain ⟨v, hv⟩ := k
  exact h.next hs hv
theorem SE.box {s N b : Nat} {cs : List Value} {w w' : World} (h : Box N cs b w) (k : SE s w w') (hne : b ≠ s) : Box N cs b w' := by
  obtain ⟨v, hv⟩ := k
  exact h.after hne hv
theorem SE.cell {s : Nat} {w w' : World} {p : Addr} {u : Value} (k : SE s w w') (h : w.cell? p = some u) (hne : p ≠ ⟨s, 1, none⟩) : w'.cell? p = some u := by
  obtain ⟨v, hv⟩ := k
  rw [cell_after hv (Ext.lt h) hne]; exact h
theorem SE.row {s B n size : Nat} {A : Option Addr} {xs : List Value} {w w' : World} (k : SE s w w') (h : Row w B size A n xs) (hB : B ≤ s) (hs : s < w.heap.size) : Row w' B size A n xs := by
  obtain ⟨v, hv⟩ := k
  exact h.keep fun p hp => cell_after hv (by omega) (fun e => by subst e; simp at hp; omega)

set_option maxHeartbeats 1000000 in
theorem cut_any (A : Option Addr) (n c : Nat) (m : Nat) (w : World) (hn : n ≤ 9223372036854775807) (hc : n ≤ c) (hm : m ≤ 1000) :
    Calls Try.prog 37 #[.slice A n c, .int .i64 (m : Nat)] w fun e w' => e = .returned (.slice A (min n m) c) ∧ w = w' := by
  by_cases h : n ≤ m
  · rw [Nat.min_eq_left h]
    have h1 : decide ((m : Int) < (n : Int)) = false := by simp; omega
    go_enter Try.func37, Try.ntmps37
    go_wp2
    go_ret
    exact ⟨rfl, rfl⟩
  · rw [Nat.min_eq_right (by omega)]
    have h1 : decide ((m : Int) < (n : Int)) = true := by simp; omega
    have h2 : m ≤ c := by omega
    go_enter Try.func37, Try.ntmps37
    go_wp2
    go_ret
    exact ⟨rfl, rfl⟩
set_option maxHeartbeats 1000000 in
theorem left_any (s : Nat) (A : Option Addr) (m c : Nat) (l : List Int) (i : Nat) (w : World) (h : SrcAt w s A m c l i) :
    Calls Try.prog 38 #[.pointer (some ⟨s, 0, none⟩)] w fun e w' => e = .returned (.bool (decide (i < m))) ∧ Ext w w' := by
  obtain ⟨c0, c1, f1, row, hi, hm⟩ := h
  go_enter Try.func38, Try.ntmps38
  go_wp2_with fail
  go_quiet (fail)
  go_wp2
  go_ret
  exact ⟨rfl, (Ext.refl _).drewN _⟩

theorem SrcAt.up {w : World} {s : Nat} {A : Option Addr} {m c : Nat} {l : List Int} {i : Nat} (h : SrcAt w s A m c l i) (o : Obj) : SrcAt (w.alloc o) s A m c l i := h.ext ((Ext.refl w).alloc o)
theorem SrcAt.drew_ {w : World} {s : Nat} {A : Option Addr} {m c : Nat} {l : List Int} {i : Nat} (h : SrcAt w s A m c l i) : SrcAt w.drew s A m c l i := h.ext (Ext.refl w).drew
theorem SrcAt.drewN_ {w : World} {s k : Nat} {A : Option Addr} {m c : Nat} {l : List Int} {i : Nat} (h : SrcAt w s A m c l i) : SrcAt (w.drewN k) s A m c l i := h.ext ((Ext.refl w).drewN k)
theorem SrcAt.put {w : World} {s b k : Nat} {v : Value} {A : Option Addr} {m c : Nat} {l : List Int} {i : Nat} (h : SrcAt w s A m c l i) (hb : s < b) : SrcAt (w.setCell ⟨b, k, none⟩ v) s A m c l i := by
  obtain ⟨c0, c1, f1, row, q1, q2⟩ := h
  have hne : ∀ p : Addr, p.block ≤ s → (w.setCell ⟨b, k, none⟩ v).cell? p = w.cell? p := fun p hp => World.cell?_setCell_other _ _ _ _ (fun e => by rw [← e] at hp; simp at hp; omega)
  exact ⟨by rw [hne _ (Nat.le_refl _)]; exact c0, by rw [hne _ (Nat.le_refl _)]; exact c1, by simpa using f1, row.keep fun p hp => hne p (Nat.le_of_lt hp), q1, q2⟩
theorem SE.up {w w1 : World} {s : Nat} (h : SE s w w1) (o : Obj) : SE s w (w1.alloc o) := h.ext ((Ext.refl w1).alloc o)
theorem SE.drew_ {w w1 : World} {s : Nat} (h : SE s w w1) : SE s w w1.drew := h.ext (Ext.refl w1).drew
theorem SE.drewN_ {w w1 : World} {s k : Nat} (h : SE s w w1) : SE s w (w1.drewN k) := h.ext ((Ext.refl w1).drewN k)
theorem SE.put {w w1 : World} {s b k : Nat} {v : Value} (h : SE s w w1) (hb : w.heap.size ≤ b) : SE s w (w1.setCell ⟨b, k, none⟩ v) := h.setCell (p := ⟨b, k, none⟩) hb v
theorem nxi_up {l : List Int} {m i : Nat} (hl : l.length = m) : i < m → i < nxi l i := fun h => by unfold nxi; rw [if_pos (by omega)]; omega
theorem nxi_le (l : List Int) (i : Nat) : i ≤ nxi l i := by unfold nxi; split <;> omega

set_option maxHeartbeats 2000000 in
theorem input_any (s : Nat) (A : Option Addr) (m c : Nat) (l : List Int) (i : Nat) (w : World) (h : SrcAt w s A m c l i) :
    Calls Try.prog 39 #[.pointer (some ⟨s, 0, none⟩)] w fun e w' => ∃ (k x : Int) (i' : Nat), e = .returned (.agg #[.int .i64 k, .int .i64 x]) ∧ SrcAt w' s A m c l i' ∧ SE s w w' ∧ (i < m → i < i') := by
  have hsl : s < w.heap.size := Ext.lt h.c0
  have hl : l.length = m := by have := h.row.1; simpa using this
  have hse := SE.start h.c1
  have H := Lib.hid (And.intro h (And.intro hse hl))
  clear h hse hl
  go_enter Try.func39, Try.ntmps39
  go_wp2_with fail
  refine calls_at fun W hW => ?_
  obtain ⟨N, hN⟩ : ∃ N, N = w.heap.size := ⟨_, rfl⟩
  have hB0 : Box N [.int .i64 0, .int .i64 0] N W := by
    rw [hW]
    repeat' (first | with_reducible assumption | ((with_reducible refine Box.fresh ?fb ?fn ?fr); (case fb => first | omega | (simp <;> omega)); (case fn => first | omega | (simp <;> omega)); (case fr => rfl)) | with_reducible apply Box.up | with_reducible apply Box.drew_ | with_reducible apply Box.drewN_ | with_reducible apply Box.plus_ | with_reducible apply Box.put | with_reducible refine Box.off ?_ (by omega))
    all_goals first | rfl | (simp; done)
  have hB1 : Box N [.int .i64 1, .int .i64 1, .int .i64 2, .int .i64 2, .int .i64 3, .int .i64 4] (N + 1) W := by
    rw [hW]
    repeat' (first | with_reducible assumption | ((with_reducible refine Box.fresh ?fb ?fn ?fr); (case fb => first | omega | (simp <;> omega)); (case fn => first | omega | (simp <;> omega)); (case fr => rfl)) | with_reducible apply Box.up | with_reducible apply Box.drew_ | with_reducible apply Box.drewN_ | with_reducible apply Box.plus_ | with_reducible apply Box.put | with_reducible refine Box.off ?_ (by omega))
    all_goals first | rfl | (simp; done)
  have hE0 : Ext w W := by
    rw [hW]
    repeat' (first | with_reducible assumption | with_reducible exact Ext.refl _ | with_reducible apply Ext.alloc | with_reducible apply Ext.drew | with_reducible apply Ext.drewN | with_reducible apply Ext.plus_ | with_reducible refine Ext.put ?_ (by omega))
  rw [← hN]
  clear hW
  have hs0 := H.out.1.ext hE0
  refine (next_any s A m c l i 6 W hs0 (by decide) (by decide)).mono ?_
  rintro e X ⟨rfl, hE⟩
  have hb := nx_bd l i 6 (by decide)
  obtain ⟨z, hz⟩ : ∃ z : Nat, nx l i 6 = z := ⟨(nx l i 6).toNat, by omega⟩
  rw [hz] at hb ⊢
  have hz6 : z < 6 := by omega
  have hs1 := hs0.after hE
  replace hB0 := hB0.after (by omega) hE
  replace hB1 := hB1.after (by omega) hE
  have hse := (H.out.2.1.ext hE0).next hsl hE
  have hnx := nxi_up (i := i) H.out.2.2
  obtain ⟨y, hy⟩ : ∃ y, ([.int .i64 1, .int .i64 1, .int .i64 2, .int .i64 2, .int .i64 3, .int .i64 4] : List Value)[z]? = some (.int .i64 y) := by
    rcases (show z = 0 ∨ z = 1 ∨ z = 2 ∨ z = 3 ∨ z = 4 ∨ z = 5 by omega) with rfl | rfl | rfl | rfl | rfl | rfl <;> exact ⟨_, rfl⟩
  have hc := hB1.cell z (by simpa using hz6)
  rw [hy] at hc
  have k0 := hB0.cell 0 (by simp)
  have k1 := hB0.cell 1 (by simp)
  simp only [List.getElem?_cons_zero, List.getElem?_cons_succ] at k0 k1
  have kF := hB0.free
  have kL := hB0.lt
  have kB := hB0.base
  obtain ⟨j, hj⟩ : ∃ j, j = nxi l i := ⟨_, rfl⟩
  rw [← hj] at hs1 hnx
  have HS := Lib.hid (And.intro hs1 (And.intro hse (And.intro hnx (And.intro hB0 hN))))
  clear hE hs0 hB1 hE0 hz hb hy hs1 hse hB0 hnx hj hN H
  by_cases h4 : y = 4
  · subst h4
    go_wp2_with fail
    refine calls_at fun V hV => ?_
    obtain ⟨hs1, hse, hnx, hB0, hN⟩ := HS.out
    obtain ⟨M, hM⟩ : ∃ M, M = X.heap.size := ⟨_, rfl⟩
    have hNM : N < M := by omega
    replace hB0 : Box N [.int .i64 0, .int .i64 0] N V := by
      rw [hV]
      repeat' (first | with_reducible assumption | ((with_reducible refine Box.fresh ?fb ?fn ?fr); (case fb => first | omega | (simp <;> omega)); (case fn => first | omega | (simp <;> omega)); (case fr => rfl)) | with_reducible apply Box.up | with_reducible apply Box.drew_ | with_reducible apply Box.drewN_ | with_reducible apply Box.plus_ | with_reducible apply Box.put | with_reducible refine Box.off ?_ (by omega))
      all_goals first | rfl | (simp; done)
    have hB2 : Box N [.int .i64 4, .int .i64 0] M V := by
      rw [hV]
      repeat' (first | with_reducible assumption | ((with_reducible refine Box.fresh ?fb ?fn ?fr); (case fb => first | omega | (simp <;> omega)); (case fn => first | omega | (simp <;> omega)); (case fr => rfl)) | with_reducible apply Box.up | with_reducible apply Box.drew_ | with_reducible apply Box.drewN_ | with_reducible apply Box.plus_ | with_reducible apply Box.put | with_reducible refine Box.off ?_ (by omega))
      all_goals first | rfl | (simp; done)
    have hB3 : Box N [.int .i64 1, .int .i64 1, .int .i64 1, .int .i64 2, .int .i64 3, .int .i64 4, .int .i64 5, .int .i64 6] (M + 1) V := by
      rw [hV]
      repeat' (first | with_reducible assumption | ((with_reducible refine Box.fresh ?fb ?fn ?fr); (case fb => first | omega | (simp <;> omega)); (case fn => first | omega | (simp <;> omega)); (case fr => rfl)) | with_reducible apply Box.up | with_reducible apply Box.drew_ | with_reducible apply Box.drewN_ | with_reducible apply Box.plus_ | with_reducible apply Box.put | with_reducible refine Box.off ?_ (by omega))
      all_goals first | rfl | (simp; done)
    replace hs1 : SrcAt V s A m c l j := by
      rw [hV]
      repeat' (first | with_reducible assumption | with_reducible apply SrcAt.up | with_reducible apply SrcAt.drew_ | with_reducible apply SrcAt.drewN_ | with_reducible refine SrcAt.put ?_ (by omega))
    replace hse : SE s w V := by
      rw [hV]
      repeat' (first | with_reducible assumption | with_reducible apply SE.up | with_reducible apply SE.drew_ | with_reducible apply SE.drewN_ | with_reducible refine SE.put ?_ (by omega))
    rw [← hM]
    clear hV HS hc
    clear k0 k1 kF kL kB
    refine (next_any s A m c l j 8 V hs1 (by decide) (by decide)).mono ?_
    rintro e Z ⟨rfl, hE⟩
    have hb := nx_bd l j 8 (by decide)
    obtain ⟨u, hu⟩ : ∃ u : Nat, nx l j 8 = u := ⟨(nx l j 8).toNat, by omega⟩
    rw [hu] at hb ⊢
    have hu8 : u < 8 := by omega
    have hs2 := hs1.after hE
    replace hB0 := hB0.after (by omega) hE
    replace hB2 := hB2.after (by omega) hE
    replace hB3 := hB3.after (by omega) hE
    have hse2 := hse.next hsl hE
    have hnj := nxi_le l j
    obtain ⟨y, hy⟩ : ∃ y, ([.int .i64 1, .int .i64 1, .int .i64 1, .int .i64 2, .int .i64 3, .int .i64 4, .int .i64 5, .int .i64 6] : List Value)[u]? = some (.int .i64 y) := by
      rcases (show u = 0 ∨ u = 1 ∨ u = 2 ∨ u = 3 ∨ u = 4 ∨ u = 5 ∨ u = 6 ∨ u = 7 by omega) with rfl | rfl | rfl | rfl | rfl | rfl | rfl | rfl <;> exact ⟨_, rfl⟩
    have hc := hB3.cell u (by simpa using hu8)
    rw [hy] at hc
    have k0 := hB0.cell 0 (by simp)
    have k1 := hB0.cell 1 (by simp)
    simp only [List.getElem?_cons_zero, List.getElem?_cons_succ] at k0 k1
    have kF := hB0.free
    have kL := hB0.lt
    have kB := hB0.base
    have p0 := hB2.cell 0 (by simp)
    have p1 := hB2.cell 1 (by simp)
    simp only [List.getElem?_cons_zero, List.getElem?_cons_succ] at p0 p1
    have pF := hB2.free
    have pL := hB2.lt
    have pB := hB2.base
    obtain ⟨j', hj'⟩ : ∃ j', j' = nxi l j := ⟨_, rfl⟩
    rw [← hj'] at hs2 hnj
    have hne : N ≠ M := by omega
    have hne' : M ≠ N := by omega
    have HS := Lib.hid (And.intro hs2 (And.intro hse2 (And.intro (fun h : i < m => Nat.lt_of_lt_of_le (hnx h) hnj) hN)))
    clear hE hs1 hse hB3 hu hb hy hs2 hse2 hB0 hB2 hnx hnj hj' hN hM hNM
    go_wp2
    refine bodyPost_ret (v := (.agg #[.int .i64 4, .int .i64 y])) (by simp [results, Try.results39, go_sem, k0, k1]) rfl ?_
    obtain ⟨hs2, hse2, hnx, hN⟩ := HS.out
    refine ⟨_, _, j', rfl, ?_, ?_, hnx⟩
    · repeat' (first | with_reducible assumption | with_reducible apply SrcAt.up | with_reducible apply SrcAt.drew_ | with_reducible apply SrcAt.drewN_ | with_reducible refine SrcAt.put ?_ (by omega))
    · repeat' (first | with_reducible assumption | with_reducible apply SE.up | with_reducible apply SE.drew_ | with_reducible apply SE.drewN_ | with_reducible refine SE.put ?_ (by omega))
  · have h5 : (y == 4) = false := by simp [h4]
    go_wp2
    refine bodyPost_ret (v := (.agg #[.int .i64 y, .int .i64 0])) (by simp [results, Try.results39, go_sem, k0, k1, kL]) rfl ?_
    obtain ⟨hs1, hse, hnx, hB0, hN⟩ := HS.out
    refine ⟨_, _, j, rfl, ?_, ?_, hnx⟩
    · repeat' (first | with_reducible assumption | with_reducible apply SrcAt.up | with_reducible apply SrcAt.drew_ | with_reducible apply SrcAt.drewN_ | with_reducible refine SrcAt.put ?_ (by omega))
    · repeat' (first | with_reducible assumption | with_reducible apply SE.up | with_reducible apply SE.drew_ | with_reducible apply SE.drewN_ | with_reducible refine SE.put ?_ (by omega))
end Go.Proofs.Ytidndcigloohoaa
