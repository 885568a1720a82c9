/- 'w.plus x': w with new blocks behind it, of which nothing is said. What a call leaves that writes nothing that was there. -/
import Derived.WalkKit
import Derived.Deep.Draws
set_option linter.unusedVariables false
namespace Go
/-- w with the blocks x.1 behind it, and x.2 draws made. -/
def World.plus (w : World) (x : Array Obj × Nat) : World := { w with heap := w.heap ++ x.1, drawn := x.2 }
/-- One draw more. -/
def moreDraws (x : Array Obj × Nat) (n : Nat) : Array Obj × Nat := (x.1, x.2 + n)
/-- Both, one behind the other. -/
def morePlus (x y : Array Obj × Nat) : Array Obj × Nat := (x.1 ++ y.1, y.2)
section
variable {w : World}
theorem heap_lt_of_isSome {a : Addr} (h : (w.cell? a).isSome = true) : a.block < w.heap.size := by
  rcases Nat.lt_or_ge a.block w.heap.size with hlt | hge
  · exact hlt
  · unfold World.cell? at h; simp [Array.getElem?_eq_none hge] at h
theorem World.plus_block (x : Array Obj × Nat) {k : Nat} (h : k < w.heap.size) : (w.plus x).heap[k]? = w.heap[k]? := by
  simp [World.plus, Array.getElem?_append, h]
@[go_sem] theorem World.cell?_plus (x : Array Obj × Nat) (a : Addr) (h : (w.cell? a).isSome = true) : (w.plus x).cell? a = w.cell? a := by
  exact World.cell?_of_block (World.plus_block x (heap_lt_of_isSome h))
@[go_sem] theorem World.frozen?_plus (x : Array Obj × Nat) (a : Addr) (h : (w.cell? a).isSome = true) : (w.plus x).frozen? a = w.frozen? a := by
  exact World.frozen?_of_block (World.plus_block x (heap_lt_of_isSome h))
@[go_sem] theorem World.setCell_plus (x : Array Obj × Nat) (a : Addr) (v : Value) (h : (w.cell? a).isSome = true) : (w.plus x).setCell a v = (w.setCell a v).plus x := by
  have hlt := heap_lt_of_isSome h
  unfold World.setCell World.plus
  congr 1
  apply Array.ext_getElem?
  intro k
  simp only [Array.getElem?_modify, Array.getElem?_append, Array.size_modify]
  by_cases hk : k < w.heap.size
  · simp [hk]
  · rw [if_neg (by omega : ¬ a.block = k)]; simp [hk]
@[go_sem] theorem World.drew_plus (x : Array Obj × Nat) : (w.plus x).drew = w.plus (moreDraws x 1) := rfl
@[go_sem] theorem World.drewN_plus (x : Array Obj × Nat) (n : Nat) : (w.plus x).drewN n = w.plus (moreDraws x n) := rfl
@[go_sem] theorem World.plus_drew (x : Array Obj × Nat) : w.drew.plus x = w.plus x := rfl
@[go_sem] theorem World.plus_drewN (x : Array Obj × Nat) (n : Nat) : (w.drewN n).plus x = w.plus x := rfl
@[go_sem] theorem World.plus_plus (x y : Array Obj × Nat) : (w.plus x).plus y = w.plus (morePlus x y) := by
  unfold World.plus morePlus; simp [Array.append_assoc]
theorem World.plus_self (w : World) : w = w.plus (#[], w.drawn) := by
  cases w; simp [World.plus]
theorem World.alloc_plus (x : Array Obj × Nat) (o : Obj) : (w.plus x).alloc o = w.plus (x.1.push o, x.2) := by
  unfold World.plus World.alloc; simp
theorem World.size_plus (x : Array Obj × Nat) : w.heap.size ≤ (w.plus x).heap.size := by simp [World.plus]
@[go_sem] theorem World.lt_plus (x : Array Obj × Nat) (k : Nat) (h : k < w.heap.size) : (k < (w.plus x).heap.size) = True := by
  have := World.size_plus (w := w) x; simp; omega
@[go_sem] theorem World.le_plus (x : Array Obj × Nat) (k : Nat) (h : k ≤ w.heap.size) : (k ≤ (w.plus x).heap.size) = True := by
  have := World.size_plus (w := w) x; simp; omega
/-- A store into one of the blocks that lie behind block n. -/
def plusSet (n : Nat) (x : Array Obj × Nat) (a : Addr) (v : Value) : Array Obj × Nat :=
  (x.1.modify (a.block - n) fun
      | .cells c elem frozen => .cells (if a.spot.isSome then c else c.setIfInBounds a.off v) elem frozen
      | o => o, x.2)
@[go_sem] theorem World.setCell_plus_new (x : Array Obj × Nat) (a : Addr) (v : Value) (h : w.heap.size ≤ a.block) : (w.plus x).setCell a v = w.plus (plusSet w.heap.size x a v) := by
  unfold World.setCell World.plus plusSet
  congr 1
  apply Array.ext_getElem?
  intro k
  simp only [Array.getElem?_modify, Array.getElem?_append]
  by_cases hk : k < w.heap.size
  · rw [if_neg (by omega : ¬ a.block = k)]; simp [hk]
  · simp only [hk, if_false]
    by_cases e : a.block = k
    · subst e
      simp only [if_true]
      congr 1
    · rw [if_neg e, if_neg (by omega : ¬ a.block - w.heap.size = k - w.heap.size)]
@[go_sem] theorem World.cell?_plusSet_same (n : Nat) (x : Array Obj × Nat) (a : Addr) (v : Value) (hn : n = w.heap.size) (h : w.heap.size ≤ a.block) (hc : ((w.plus x).cell? a).isSome = true) : (w.plus (plusSet n x a v)).cell? a = some v := by
  subst hn
  rw [← World.setCell_plus_new x a v h]
  exact World.cell?_setCell_same' _ _ _ hc
@[go_sem] theorem World.cell?_plusSet_other (n : Nat) (x : Array Obj × Nat) (a p : Addr) (v : Value) (hn : n = w.heap.size) (h : w.heap.size ≤ a.block) (hne : a ≠ p) : (w.plus (plusSet n x a v)).cell? p = (w.plus x).cell? p := by
  subst hn
  rw [← World.setCell_plus_new x a v h]
  exact World.cell?_setCell_other _ _ _ _ hne
@[go_sem] theorem World.frozen?_plusSet (n : Nat) (x : Array Obj × Nat) (a p : Addr) (v : Value) (hn : n = w.heap.size) (h : w.heap.size ≤ a.block) : (w.plus (plusSet n x a v)).frozen? p = (w.plus x).frozen? p := by
  subst hn
  rw [← World.setCell_plus_new x a v h]
  simp
/-- A cell that is there, behind a new block. -/
@[go_sem] theorem World.cell?_alloc_had (o : Obj) (a : Addr) (h : (w.cell? a).isSome = true) : (w.alloc o).cell? a = w.cell? a :=
  World.cell?_alloc_lt w o a (heap_lt_of_isSome h)
@[go_sem] theorem World.frozen?_alloc_had (o : Obj) (a : Addr) (h : (w.cell? a).isSome = true) : (w.alloc o).frozen? a = w.frozen? a :=
  World.frozen?_alloc_old w o a (Nat.ne_of_lt (heap_lt_of_isSome h))
/- The same through several blocks at once (simp's side goals nest two deep). -/
@[go_sem] theorem World.cell?_alloc_had2 (o1 o2 : Obj) (a : Addr) (h : (w.cell? a).isSome = true) : ((w.alloc o1).alloc o2).cell? a = w.cell? a := by
  have e := World.cell?_alloc_had (w := w) o1 a h
  rw [World.cell?_alloc_had o2 a (by rw [e]; exact h), e]
@[go_sem] theorem World.cell?_alloc_had3 (o1 o2 o3 : Obj) (a : Addr) (h : (w.cell? a).isSome = true) : (((w.alloc o1).alloc o2).alloc o3).cell? a = w.cell? a := by
  have e := World.cell?_alloc_had2 (w := w) o1 o2 a h
  rw [World.cell?_alloc_had o3 a (by rw [e]; exact h), e]
@[go_sem] theorem World.cell?_alloc_had4 (o1 o2 o3 o4 : Obj) (a : Addr) (h : (w.cell? a).isSome = true) : ((((w.alloc o1).alloc o2).alloc o3).alloc o4).cell? a = w.cell? a := by
  have e := World.cell?_alloc_had3 (w := w) o1 o2 o3 a h
  rw [World.cell?_alloc_had o4 a (by rw [e]; exact h), e]
@[go_sem] theorem World.cell?_alloc_had5 (o1 o2 o3 o4 o5 : Obj) (a : Addr) (h : (w.cell? a).isSome = true) : (((((w.alloc o1).alloc o2).alloc o3).alloc o4).alloc o5).cell? a = w.cell? a := by
  have e := World.cell?_alloc_had4 (w := w) o1 o2 o3 o4 a h
  rw [World.cell?_alloc_had o5 a (by rw [e]; exact h), e]
@[go_sem] theorem World.cell?_plus_alloc1 (o1 : Obj) (x : Array Obj × Nat) (a : Addr) (h : (w.cell? a).isSome = true) : ((w.alloc o1).plus x).cell? a = w.cell? a := by
  have e := World.cell?_alloc_had (w := w) o1 a h
  rw [World.cell?_plus x a (by rw [e]; exact h), e]
@[go_sem] theorem World.cell?_plus_alloc2 (o1 o2 : Obj) (x : Array Obj × Nat) (a : Addr) (h : (w.cell? a).isSome = true) : (((w.alloc o1).alloc o2).plus x).cell? a = w.cell? a := by
  have e := World.cell?_alloc_had2 (w := w) o1 o2 a h
  rw [World.cell?_plus x a (by rw [e]; exact h), e]
@[go_sem] theorem World.cell?_plus_alloc3 (o1 o2 o3 : Obj) (x : Array Obj × Nat) (a : Addr) (h : (w.cell? a).isSome = true) : ((((w.alloc o1).alloc o2).alloc o3).plus x).cell? a = w.cell? a := by
  have e := World.cell?_alloc_had3 (w := w) o1 o2 o3 a h
  rw [World.cell?_plus x a (by rw [e]; exact h), e]
@[go_sem] theorem World.cell?_plus_alloc4 (o1 o2 o3 o4 : Obj) (x : Array Obj × Nat) (a : Addr) (h : (w.cell? a).isSome = true) : (((((w.alloc o1).alloc o2).alloc o3).alloc o4).plus x).cell? a = w.cell? a := by
  have e := World.cell?_alloc_had4 (w := w) o1 o2 o3 o4 a h
  rw [World.cell?_plus x a (by rw [e]; exact h), e]
@[go_sem] theorem World.cell?_plus_alloc5 (o1 o2 o3 o4 o5 : Obj) (x : Array Obj × Nat) (a : Addr) (h : (w.cell? a).isSome = true) : ((((((w.alloc o1).alloc o2).alloc o3).alloc o4).alloc o5).plus x).cell? a = w.cell? a := by
  have e := World.cell?_alloc_had5 (w := w) o1 o2 o3 o4 o5 a h
  rw [World.cell?_plus x a (by rw [e]; exact h), e]
end
namespace Rg
/-- w' is w with new blocks. -/
def Ext (w w' : World) : Prop := RowKit.Below w.heap.size w w'
section
variable {a b c : World}
theorem Ext.refl (w : World) : Ext w w := RowKit.Below.refl _ _
theorem Ext.trans (h : Ext a b) (k : Ext b c) : Ext a c := RowKit.Below.trans h (k.mono h.size)
theorem Ext.drew (h : Ext a b) : Ext a b.drew := RowKit.Below.drew h
theorem Ext.drewN (h : Ext a b) (n : Nat) : Ext a (b.drewN n) := ⟨h.os, h.tape, h.output, h.size, h.block⟩
theorem Ext.alloc (h : Ext a b) (o : Obj) : Ext a (b.alloc o) := RowKit.Below.alloc h h.size o
theorem Ext.setCell (h : Ext a b) {p : Addr} (hp : a.heap.size ≤ p.block) (u : Value) : Ext a (b.setCell p u) := RowKit.Below.setCell h hp u
theorem Ext.plus_ (h : Ext a b) (x : Array Obj × Nat) : Ext a (b.plus x) :=
  h.trans ⟨rfl, rfl, rfl, World.size_plus x, fun _ hk => World.plus_block x hk⟩
theorem Ext.plus (h : Ext a b) : ∃ x, b = a.plus x := by
  refine ⟨(b.heap.extract a.heap.size b.heap.size, b.drawn), ?_⟩
  cases a with | mk ha ta da oa ua =>
  cases b with | mk hb tb db ob ub =>
  obtain ⟨h1, h2, h3, h4, h5⟩ := h
  simp only at h1 h2 h3 h4 h5
  subst h1; subst h2; subst h3
  unfold World.plus
  congr 1
  apply Array.ext_getElem?
  intro k
  simp only [Array.getElem?_append]
  by_cases hk : k < ha.size
  · rw [if_pos hk]; exact h5 k hk
  · rw [if_neg hk]
    simp only [Array.getElem?_extract]
    by_cases hk2 : k < hb.size
    · simp [show k - ha.size < hb.size - ha.size by omega, show ha.size + (k - ha.size) = k by omega]
    · simp [show ¬ k - ha.size < hb.size - ha.size by omega, Array.getElem?_eq_none (by omega : hb.size ≤ k)]
theorem Ext.lt {p : Addr} {v : Value} (hc : a.cell? p = some v) : p.block < a.heap.size := heap_lt_of_isSome (by rw [hc]; rfl)
theorem Ext.cell (h : Ext a b) {p : Addr} {v : Value} (hc : a.cell? p = some v) : b.cell? p = some v := by
  rw [RowKit.Below.cell h (Ext.lt hc)]; exact hc
end
end Rg
end Go
