/- Words for slices that are read: a slice value whose elements' cells hold a given list of values. -/
import Derived.Test.YtbdahlfakinagaaDoorRows
import Derived.WalkKit
import Derived.WalkSpells
import Derived.WalkLawsBesides
import Derived.Lib.Hide
import Derived.Test.YtbdahlfakinagaaDoorPlus
set_option linter.unusedVariables false
namespace Go.Proofs.YtbdahlfakinagaaDoor
open Go.RowKit Go.Rg

/-- The slice value '.slice A n c' reads as xs (elements of 'size' cells each) in w, and lies below block B. -/
def Row (w : World) (B size : Nat) (A : Option Addr) (n : Nat) (xs : List Value) : Prop :=
  xs.length = n * size ∧ (0 < n → ∃ b o, A = some ⟨b, o, none⟩ ∧ b < B ∧ ∀ j u, xs[j]? = some u → w.cell? ⟨b, o + j, none⟩ = some u)

section
variable {w w' : World} {B B' size n : Nat} {A : Option Addr} {xs : List Value}
theorem Row.nil : Row w B size A 0 [] := ⟨by simp, fun h => absurd h (by omega)⟩
theorem Row.len (h : Row w B 1 A n xs) : xs.length = n := by have := h.1; omega
theorem Row.keep (h : Row w B size A n xs) (hk : ∀ p : Addr, p.block < B → w'.cell? p = w.cell? p) : Row w' B size A n xs :=
  ⟨h.1, fun hn => by
    obtain ⟨b, o, e, hb, hc⟩ := h.2 hn
    exact ⟨b, o, e, hb, fun j u hu => (hk _ hb).trans (hc j u hu)⟩⟩
theorem Row.more (h : Row w B size A n xs) (hB : B ≤ B') : Row w B' size A n xs :=
  ⟨h.1, fun hn => by
    obtain ⟨b, o, e, hb, hc⟩ := h.2 hn
    exact ⟨b, o, e, by omega, hc⟩⟩
theorem Row.below (h : Row w B size A n xs) (hb : Below B w w') : Row w' B size A n xs := h.keep fun _ hp => hb.cell hp
theorem Row.drew (h : Row w B size A n xs) : Row w.drew B size A n xs := h
theorem Row.alloc (h : Row w B size A n xs) (hB : B ≤ w.heap.size) (o : Obj) : Row (w.alloc o) B size A n xs := h.keep fun p hp => World.cell?_alloc_lt w o p (by omega)
theorem Row.setCell (h : Row w B size A n xs) {p : Addr} (hB : B ≤ p.block) (u : Value) : Row (w.setCell p u) B size A n xs :=
  h.keep fun q hq => World.cell?_setCell_other w p q u (fun e => by subst e; omega)
/-- What was there reads as it did behind new blocks. -/
theorem Row.lift {W : World} {s : Nat} (h : Row w w.heap.size s A n xs) (e : Ext w W) : Row W W.heap.size s A n xs := (h.below e).more e.size
theorem Row.up_alloc {s : Nat} (h : Row w w.heap.size s A n xs) (o : Obj) : Row (w.alloc o) (w.alloc o).heap.size s A n xs := h.lift ((Ext.refl w).alloc o)
/-- A row in one of the new blocks x behind a world of N blocks: it stays while that world's own blocks are written. -/
def RowX (x : Array Obj × Nat) (N : Nat) (A : Option Addr) (n : Nat) (xs : List Value) : Prop :=
  xs.length = n ∧ (0 < n → ∃ (b : Nat) (cs : Array Value) (t : TypeId) (f : Nat × Nat), A = some ⟨b, 0, none⟩ ∧ N ≤ b ∧ x.1[b - N]? = some (.cells cs t f) ∧ ∀ (j : Nat) (u : Value), xs[j]? = some u → cs[j]? = some u)
theorem RowX.row {x : Array Obj × Nat} {N : Nat} (h : RowX x N A n xs) (hN : w.heap.size = N) : Row (w.plus x) (w.plus x).heap.size 1 A n xs := by
  subst hN
  refine ⟨by have := h.1; omega, fun hn => ?_⟩
  obtain ⟨b, cs, t, f, e, hb, hx, hc⟩ := h.2 hn
  have hblk : (w.plus x).heap[b]? = some (.cells cs t f) := by
    unfold World.plus
    simp only
    rw [Array.getElem?_append_right hb]; exact hx
  refine ⟨b, 0, e, (Array.getElem?_eq_some_iff.1 hblk).1, fun j u hu => ?_⟩
  unfold World.cell?
  simp only [hblk, Nat.zero_add]
  simpa using hc j u hu
theorem RowX.more {x y : Array Obj × Nat} {N : Nat} (h : RowX x N A n xs) : RowX (morePlus x y) N A n xs := by
  refine ⟨h.1, fun hn => ?_⟩
  obtain ⟨b, cs, t, f, e, hb, hx, hc⟩ := h.2 hn
  refine ⟨b, cs, t, f, e, hb, ?_, hc⟩
  unfold morePlus
  have hlt := (Array.getElem?_eq_some_iff.1 hx).1
  simp only
  rw [Array.getElem?_append_left hlt]; exact hx
theorem RowX.draws {x : Array Obj × Nat} {N k : Nat} (h : RowX x N A n xs) : RowX (moreDraws x k) N A n xs := h
/-- A row of a world with new blocks, which lies in one of them. -/
theorem RowX.of_own {x : Array Obj × Nat} {base e : Nat} {c : Nat} (h : (w.plus x).ownsRow base e 1 (.slice A n c) n xs) (hb : w.heap.size ≤ base) : RowX x w.heap.size A n xs := by
  refine ⟨by have := h.1; omega, fun hn => ?_⟩
  rcases h.2 with ⟨_, h2⟩ | ⟨g, cap, cur, hv, hbg, hg, h3, h4, h5, h6⟩
  · omega
  · have hA : A = some ⟨g, 0, none⟩ := by injection hv
    refine ⟨g, cur, e, (0, 0), hA, by omega, ?_, fun j u hu => ?_⟩
    · unfold World.plus at hg
      simp only at hg
      rw [Array.getElem?_append_right (by omega)] at hg; exact hg
    · rw [← h6] at hu
      have hj : j < n := by
        have := (List.getElem?_eq_some_iff.1 hu).1
        simp at this
        omega
      rw [List.getElem?_take, if_pos (by omega)] at hu
      simpa using hu
end
end Go.Proofs.YtbdahlfakinagaaDoor
