/- Boxes of a call behind stores and new blocks. -/
import Derived.Test.YtbdahlfakinagaaDoorOwn
set_option linter.unusedVariables false
namespace Go.Proofs.YtbdahlfakinagaaDoor
open Go.RowKit Go.Rg

theorem calls_at {P : Program} {f : FuncId} {args : Array Value} {w : World} {Q : Ending → World → Prop} (h : ∀ W, W = w → Calls P f args W Q) : Calls P f args w Q := h w rfl
theorem wp_at {P : Program} {c : Code} {Q : Exit → Act → World → Prop} {a : Act} {w : World} (h : ∀ W, W = w → Code.wp P c Q a W) : Code.wp P c Q a w := h w rfl
theorem wl_at {P : Program} {ops : Array Oper} {Q : Exit → Act → World → Prop} {l : List Oper} {a : Act} {w : World} (h : ∀ W, W = w → wpList P ops Q l a W) : wpList P ops Q l a w := h w rfl
theorem Box.up {N b : Nat} {cs : List Value} {w : World} (h : Box N cs b w) (o : Obj) : Box N cs b (w.alloc o) := h.ext ((Ext.refl w).alloc o)
theorem Box.drew_ {N b : Nat} {cs : List Value} {w : World} (h : Box N cs b w) : Box N cs b w.drew := h.ext (Ext.refl w).drew
theorem Box.plus_ {N b : Nat} {cs : List Value} {w : World} (h : Box N cs b w) (x : Array Obj × Nat) : Box N cs b (w.plus x) := h.ext ((Ext.refl w).plus_ x)
theorem Box.drewN_ {N b k : Nat} {cs : List Value} {w : World} (h : Box N cs b w) : Box N cs b (w.drewN k) := h.ext ((Ext.refl w).drewN k)
theorem Box.off {N b c k : Nat} {cs : List Value} {w : World} {v : Value} (h : Box N cs b w) (hne : c ≠ b) : Box N cs b (w.setCell ⟨c, k, none⟩ v) := h.other (p := ⟨c, k, none⟩) hne v
theorem Box.put {N b k : Nat} {cs cs' : List Value} {w : World} {v : Value} (h : Box N cs b w) (e : cs' = cs.set k v) (hk : k < cs.length) : Box N cs' b (w.setCell ⟨b, k, none⟩ v) := e ▸ h.set_ k v hk
theorem Box.fresh {N b : Nat} {w : World} {cs : Array Value} {t : TypeId} {l : List Value} (hb : b = w.heap.size) (hN : N ≤ w.heap.size) (h : cs.toList = l) : Box N l b (w.alloc (.cells cs t)) := hb ▸ Box.new w cs t l hN h
theorem Cells.fresh {b : Nat} {w : World} {cs : Array Value} {t : TypeId} {l : List Value} (hb : b = w.heap.size) (h : cs.toList = l) : Cells (w.alloc (.cells cs t)) b l := hb ▸ Cells.new w cs t l h
theorem _root_.Go.Rg.Ext.put {a b : World} {c k : Nat} {v : Value} (h : Ext a b) (hc : a.heap.size ≤ c) : Ext a (b.setCell ⟨c, k, none⟩ v) := h.setCell (p := ⟨c, k, none⟩) hc v
theorem boxes2 (w : World) (c0 c1 : Array Value) (t0 t1 : TypeId) : ∃ W, W = (w.alloc (.cells c0 t0)).alloc (.cells c1 t1) ∧ Box w.heap.size c0.toList w.heap.size W ∧ Box w.heap.size c1.toList (w.heap.size + 1) W ∧ Ext w W :=
  ⟨_, rfl, (Box.new w c0 t0 _ (Nat.le_refl _) rfl).ext ((Ext.refl _).alloc _), by simpa using Box.new (N := w.heap.size) (w.alloc (.cells c0 t0)) c1 t1 _ (by simp) rfl, ((Ext.refl w).alloc _).alloc _⟩
theorem boxes3 (w : World) (c0 c1 c2 : Array Value) (t0 t1 t2 : TypeId) : ∃ W, W = ((w.alloc (.cells c0 t0)).alloc (.cells c1 t1)).alloc (.cells c2 t2) ∧ Box w.heap.size c0.toList w.heap.size W ∧ Box w.heap.size c1.toList (w.heap.size + 1) W ∧ Box w.heap.size c2.toList (w.heap.size + 1 + 1) W ∧ Ext w W := by
  obtain ⟨W, hW, h0, h1, hE⟩ := boxes2 w c0 c1 t0 t1
  have hs : W.heap.size = w.heap.size + 2 := by rw [hW]; simp
  have hE2 := (Ext.refl W).alloc (.cells c2 t2)
  refine ⟨_, by rw [hW], h0.ext hE2, h1.ext hE2, ?_, hE.trans hE2⟩
  have := Box.new (N := w.heap.size) W c2 t2 _ (by omega) rfl
  rw [hs] at this
  exact this
theorem boxes4 (w : World) (c0 c1 c2 c3 : Array Value) (t0 t1 t2 t3 : TypeId) : ∃ W, W = (((w.alloc (.cells c0 t0)).alloc (.cells c1 t1)).alloc (.cells c2 t2)).alloc (.cells c3 t3) ∧ Box w.heap.size c0.toList w.heap.size W ∧ Box w.heap.size c1.toList (w.heap.size + 1) W ∧
    Box w.heap.size c2.toList (w.heap.size + 1 + 1) W ∧ Box w.heap.size c3.toList (w.heap.size + 1 + 1 + 1) W ∧ Ext w W := by
  obtain ⟨W, hW, h0, h1, h2, hE⟩ := boxes3 w c0 c1 c2 t0 t1 t2
  have hs : W.heap.size = w.heap.size + 3 := by rw [hW]; simp
  have hE2 := (Ext.refl W).alloc (.cells c3 t3)
  refine ⟨_, by rw [hW], h0.ext hE2, h1.ext hE2, h2.ext hE2, ?_, hE.trans hE2⟩
  have := Box.new (N := w.heap.size) W c3 t3 _ (by omega) rfl
  rw [hs] at this
  exact this
theorem Cells.up {b : Nat} {cs : List Value} {w : World} (h : Cells w b cs) (o : Obj) : Cells (w.alloc o) b cs := h.ext ((Ext.refl w).alloc o)
theorem Cells.drew_ {b : Nat} {cs : List Value} {w : World} (h : Cells w b cs) : Cells w.drew b cs := h.ext (Ext.refl w).drew
theorem Cells.plus_ {b : Nat} {cs : List Value} {w : World} (h : Cells w b cs) (x : Array Obj × Nat) : Cells (w.plus x) b cs := h.ext ((Ext.refl w).plus_ x)
theorem Cells.off {b c k : Nat} {cs : List Value} {w : World} {v : Value} (h : Cells w b cs) (hne : c ≠ b) : Cells (w.setCell ⟨c, k, none⟩ v) b cs := ⟨by simpa using h.1, fun j u hu => by rw [World.cell?_setCell_other _ _ _ _ (fun e => hne (by injection e))]; exact h.2 j u hu⟩
end Go.Proofs.YtbdahlfakinagaaDoor
