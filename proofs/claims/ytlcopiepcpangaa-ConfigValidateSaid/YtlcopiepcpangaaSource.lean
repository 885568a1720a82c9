/- canarymade.Source: what its methods give. -/
import Derived.Test.YtlcopiepcpangaaNum0
import Derived.Test.YtlcopiepcpangaaRg
import Derived.Test.YtlcopiepcpangaaOwn
import Derived.Test.YtlcopiepcpangaaWithin
import Derived.Deep.QuietTactic
import Derived.BigQuiet
set_option linter.unusedVariables false
namespace Go
theorem World.setCell_same_ (w : World) (b o : Nat) (v : Value) (h : w.cell? ⟨b, o, none⟩ = some v) : w.setCell ⟨b, o, none⟩ v = w := by
  unfold World.setCell
  cases w with | mk heap tape drawn os output =>
  congr 1
  apply Array.ext_getElem?
  intro k
  simp only [Array.getElem?_modify]
  by_cases e : b = k
  · subst e
    simp only [if_true]
    unfold World.cell? at h
    simp only at h
    cases hb : heap[b]? with
    | none => rfl
    | some ob =>
      rw [hb] at h
      cases ob with
      | cells c t f =>
        simp at h
        simp only [Option.map_some, Option.isSome_none, Bool.false_eq_true, if_false]
        congr 2
        apply Array.ext_getElem?
        intro j
        rw [Array.getElem?_setIfInBounds]
        split
        · rename_i e; subst e
          rw [h]
          split
          · rfl
          · rename_i hn
            have := Array.getElem?_eq_some_iff.1 h
            exact absurd this.1 hn
        · rfl
      | _ => rfl
  · rw [if_neg e]
theorem quiet_left {P : Program} {f : FuncId} {args : Array Value} {w : World} {n : Nat} {v : Value}
    (h : Calls P f args (w.drewN n) fun e w' => e = .returned v ∧ w.drewN n = w') : Calls P f args (w.drewN n) fun e w' => e = .returned v ∧ ∃ m, w' = w.drewN m :=
  h.mono fun _ _ ⟨he, hm⟩ => ⟨he, n, hm.symm⟩
theorem quiet_add_left {P : Program} {f : FuncId} {args : Array Value} {w : World} {a n : Nat} {v : Value}
    (h : Calls P f args (w.drewN (a + n)) fun e w' => e = .returned v ∧ w.drewN (a + n) = w') :
    Calls P f args (w.drewN (a + n)) fun e w'' => e = .returned v ∧ ∃ m, w'' = w.drewN (a + m) :=
  h.mono fun _ _ ⟨he, hm⟩ => ⟨he, n, hm.symm⟩
end Go
namespace Go.Proofs.Ytlcopiepcpangaa
open Go.RowKit Go.Rg

/-- A source at block s: the list, and how many of its numbers are used. -/
structure SrcAt (w : World) (s : Nat) (A : Option Addr) (m c : Nat) (l : List Int) (i : Nat) : Prop where
  c0 : w.cell? ⟨s, 0, none⟩ = some (.slice A m c)
  c1 : w.cell? ⟨s, 1, none⟩ = some (.int .i64 i)
  f1 : w.frozen? ⟨s, 1, none⟩ = false
  row : Row w s 1 A m (ints l)
  hi : i ≤ m
  hm : m ≤ 9223372036854775807

/-- The number that comes next, modulo n; 0 behind the end. -/
def nx (l : List Int) (i : Nat) (n : Int) : Int := if i < l.length then l.getD i 0 % n else 0
def nxi (l : List Int) (i : Nat) : Nat := if i < l.length then i + 1 else i
theorem nx_bd (l : List Int) (i : Nat) (n : Int) (hn : 0 < n) : 0 ≤ nx l i n ∧ nx l i n < n := by
  unfold nx
  split
  · exact ⟨Int.emod_nonneg _ (by omega), Int.emod_lt_of_pos _ hn⟩
  · omega

set_option maxHeartbeats 1000000 in
theorem next_any (s : Nat) (A : Option Addr) (m c : Nat) (l : List Int) (i : Nat) (n : Int) (w : World) (h : SrcAt w s A m c l i) (hn : 0 < n) (hn' : n ≤ 1000000) :
    Calls Try.prog 17 #[.pointer (some ⟨s, 0, none⟩), .int .i64 n] w fun e w' => e = .returned (.int .i64 (nx l i n)) ∧ Ext (w.setCell ⟨s, 1, none⟩ (.int .i64 (nxi l i))) w' := by
  obtain ⟨c0, c1, f1, row, hi, hm⟩ := h
  have hl := row.1
  simp only [List.length_map, Nat.mul_one] at hl
  by_cases hlt : i < m
  · obtain ⟨b, o, z, rfl, hb, hz, hcell⟩ := row.int_at hlt
    have e1 : nx l i n = z % n := by unfold nx; rw [if_pos (by omega)]; simp [hz]
    have e2 : nxi l i = i + 1 := by unfold nxi; rw [if_pos (by omega)]
    rw [e1, e2]
    have hne : b ≠ s := by omega
    clear e1 e2 row hz hl
    have hne' : s ≠ b := fun e => hne e.symm
    have hcm : decide ((m : Int) ≤ (i : Int)) = false := by simp; omega
    have hcm' : decide (m ≤ i) = false := by simp; omega
    have hx1 : IntKind.i64.wrap ((i : Int) + 1 - 1) = (i : Int) + 1 - 1 := IntWalk.i64_in _ (by omega)
    go_enter Try.func17, Try.ntmps17
    go_wp2_with fail
    go_quiet (fail)
    go_wp2_with fail
    go_quiet ((go_at_call 8; first | exact quiet_left (within_any _ _ _ hn (by omega)) | exact quiet_add_left (within_any _ _ _ hn (by omega))))
    go_wp2
    go_ret
    exact ⟨rfl, rfl, rfl, rfl, by simp [World.setCell, World.drewN], fun _ _ => rfl⟩
  · have e1 : nx l i n = 0 := by unfold nx; rw [if_neg (by omega)]
    have e2 : nxi l i = i := by unfold nxi; rw [if_neg (by omega)]
    rw [e1, e2]
    have hsame := World.setCell_same_ w s 1 _ c1
    rw [hsame]
    have hcm : decide ((m : Int) ≤ (i : Int)) = true := by simp; omega
    have hcm' : decide (m ≤ i) = true := by simp; omega
    clear e1 e2 row hl hsame
    go_enter Try.func17, Try.ntmps17
    go_wp2_with fail
    go_quiet (fail)
    go_wp2_with fail
    go_ret
    exact ⟨rfl, (Ext.refl _).drewN _⟩

/-! ### Worlds behind calls of Next: only the source's counter has turned, and there are new blocks -/
theorem cell_after {w w' : World} {s : Nat} {v : Value} {p : Addr} (hE : Ext (w.setCell ⟨s, 1, none⟩ v) w') (hp : p.block < w.heap.size) (hne : p ≠ ⟨s, 1, none⟩) : w'.cell? p = w.cell? p := by
  rw [RowKit.Below.cell (p := p) hE (by simpa using hp)]
  exact World.cell?_setCell_other _ _ _ _ (fun e => hne e.symm)
theorem SrcAt.after {w w' : World} {s : Nat} {A : Option Addr} {m c : Nat} {l : List Int} {i : Nat} (h : SrcAt w s A m c l i) (hE : Ext (w.setCell ⟨s, 1, none⟩ (.int .i64 (nxi l i))) w') : SrcAt w' s A m c l (nxi l i) := by
  obtain ⟨c0, c1, f1, row, hi, hm⟩ := h
  have hs : s < w.heap.size := Ext.lt c0
  have hl := row.1
  simp only [List.length_map, Nat.mul_one] at hl
  refine ⟨?_, ?_, ?_, row.keep fun p hp => ?_, ?_, hm⟩
  · rw [cell_after hE hs (by simp)]; exact c0
  · rw [RowKit.Below.cell (p := ⟨s, 1, none⟩) hE (by simpa using hs)]
    exact World.cell?_setCell_same _ _ _ c1
  · rw [RowKit.Below.frozen (p := ⟨s, 1, none⟩) hE (by simpa using hs)]
    simpa using f1
  · exact cell_after hE (Nat.lt_trans hp hs) (fun e => by subst e; simp at hp)
  · unfold nxi; split <;> omega
theorem SrcAt.ext {w w' : World} {s : Nat} {A : Option Addr} {m c : Nat} {l : List Int} {i : Nat} (h : SrcAt w s A m c l i) (hE : Ext w w') : SrcAt w' s A m c l i := by
  obtain ⟨c0, c1, f1, row, hi, hm⟩ := h
  have hs : s < w.heap.size := Ext.lt c0
  exact ⟨hE.cell c0, hE.cell c1, by rw [RowKit.Below.frozen (p := ⟨s, 1, none⟩) hE hs]; exact f1, row.keep fun p hp => RowKit.Below.cell hE (Nat.lt_trans hp hs), hi, hm⟩
theorem _root_.Go.Rg.Box.after {w w' : World} {s N b : Nat} {cs : List Value} {v : Value} (h : Box N cs b w) (hne : b ≠ s) (hE : Ext (w.setCell ⟨s, 1, none⟩ v) w') : Box N cs b w' :=
  ⟨h.base, Nat.lt_of_lt_of_le h.lt (by simpa using hE.size), fun j hj => by rw [cell_after hE h.lt (by simp [hne])]; exact h.cell j hj, fun j => by
    rw [RowKit.Below.frozen (p := ⟨b, j, none⟩) hE (by simpa using h.lt)]; simpa using h.free j⟩
/-- w' is w but for the counter of the source at s, and for new blocks. -/
def SE (s : Nat) (w w' : World) : Prop := ∃ v, Ext (w.setCell ⟨s, 1, none⟩ v) w'
theorem setCell_twice (w : World) (s : Nat) (u v : Value) : (w.setCell ⟨s, 1, none⟩ u).setCell ⟨s, 1, none⟩ v = w.setCell ⟨s, 1, none⟩ v := by
  unfold World.setCell
  congr 1
  apply Array.ext_getElem?
  intro k
  simp only [Array.getElem?_modify]
  by_cases e : s = k
  · subst e
    simp only [if_true, Option.map_map]
    congr 1
    funext o
    cases o <;> simp
  · simp [e]
theorem SE.start {w : World} {s : Nat} {v : Value} (h : w.cell? ⟨s, 1, none⟩ = some v) : SE s w w := ⟨v, by rw [World.setCell_same_ w s 1 v h]; exact Ext.refl _⟩
theorem SE.next {w w1 w2 : World} {s : Nat} {v : Value} (h : SE s w w1) (hs : s < w.heap.size) (k : Ext (w1.setCell ⟨s, 1, none⟩ v) w2) : SE s w w2 := by
  obtain ⟨u, hu⟩ := h
  refine ⟨v, Ext.trans ?_ k⟩
  rw [← setCell_twice w s u v]
  refine ⟨by simpa [World.setCell] using hu.os, by simpa [World.setCell] using hu.tape, by simpa [World.setCell] using hu.output, by simpa using hu.size, fun k hk => ?_⟩
  have hk' : k < w.heap.size := by simpa using hk
  have hb := hu.block k (by simpa using hk')
  simp only [World.setCell, Array.getElem?_modify] at hb ⊢
  rw [hb]
theorem SE.ext {w w1 w2 : World} {s : Nat} (h : SE s w w1) (k : Ext w1 w2) : SE s w w2 := by
  obtain ⟨u, hu⟩ := h
  exact ⟨u, hu.trans k⟩
theorem SE.size {w w1 : World} {s : Nat} (h : SE s w w1) : w.heap.size ≤ w1.heap.size := by
  obtain ⟨u, hu⟩ := h
  simpa using hu.size
theorem SE.setCell {w w1 : World} {s : Nat} (h : SE s w w1) {p : Addr} (hp : w.heap.size ≤ p.block) (v : Value) : SE s w (w1.setCell p v) := by
  obtain ⟨u, hu⟩ := h
  exact ⟨u, hu.setCell (by simpa using hp) v⟩
theorem next_ex (s : Nat) (A : Option Addr) (m c : Nat) (l : List Int) (i : Nat) (n : Int) (w : World) (h : SrcAt w s A m c l i) (hn : 0 < n) (hn' : n ≤ 1000000) :
    Calls Try.prog 17 #[.pointer (some ⟨s, 0, none⟩), .int .i64 n] w fun e w' => ∃ (a : Int) (i' : Nat), e = .returned (.int .i64 a) ∧ 0 ≤ a ∧ a < n ∧ SrcAt w' s A m c l i' ∧ Ext (w.setCell ⟨s, 1, none⟩ (.int .i64 i')) w' :=
  (next_any s A m c l i n w h hn hn').mono fun _ _ ⟨he, hE⟩ => ⟨_, _, he, (nx_bd l i n hn).1, (nx_bd l i n hn).2, h.after hE, hE⟩

theorem SE.grown {w w1 w2 : World} {s base n size : Nat} {e : TypeId} {v : Value} {xs : List Value} (h : SE s w w1) (hown : w1.ownsRow base e size v n xs) (hb : w.heap.size ≤ base) (hg : w1.grownBy w2 v.ownBlock) : SE s w w2 := by
  obtain ⟨u, hu⟩ := h
  refine ⟨u, hu.os |> fun a => ⟨hg.os.trans a, hg.tape.trans hu.tape, hg.output.trans hu.output, Nat.le_trans hu.size hg.size, fun k hk => ?_⟩⟩
  have hk' : k < w.heap.size := by simpa using hk
  have hsz : w.heap.size ≤ w1.heap.size := by simpa using hu.size
  refine (hg.block k (by omega) ?_).trans (hu.block k hk)
  rcases hown.2 with ⟨h1, _⟩ | ⟨g, cap, cur, hv, hbg, _⟩
  · rw [h1]; simp [Value.ownBlock]
  · rw [hv]; simp only [Value.ownBlock]; intro q; injection q with q; omega
theorem SrcAt.grown {w w' : World} {s : Nat} {A : Option Addr} {m c : Nat} {l : List Int} {i : Nat} {row : Option Nat} (h : SrcAt w s A m c l i) (hg : w.grownBy w' row) (hr : ∀ k, row = some k → s < k) : SrcAt w' s A m c l i := by
  obtain ⟨c0, c1, f1, row', hi, hm⟩ := h
  have hs : s < w.heap.size := Ext.lt c0
  have hne : some s ≠ row := fun e => by have := hr s e.symm; omega
  have hcell : ∀ o, w'.cell? ⟨s, o, none⟩ = w.cell? ⟨s, o, none⟩ := fun o => World.cell?_of_block (a := ⟨s, o, none⟩) (hg.block s hs hne)
  refine ⟨by rw [hcell]; exact c0, by rw [hcell]; exact c1, by rw [World.frozen?_of_block (a := ⟨s, 1, none⟩) (hg.block s hs hne)]; exact f1, row'.keep fun p hp => World.cell?_of_block (hg.block p.block (Nat.lt_trans hp hs) fun e => by have := hr _ e.symm; omega), hi, hm⟩
end Go.Proofs.Ytlcopiepcpangaa
