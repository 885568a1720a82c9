/- A struct of many cells, loaded and stored at once. -/
import Derived.Test.YtbdahlfakinagaaDoorBoxes
import Derived.Deep.MidRow
set_option linter.unusedVariables false
namespace Go.Proofs.YtbdahlfakinagaaDoor
open Go.RowKit Go.Rg

theorem size_setCells_ (b : Nat) : ∀ (vs : List Value) (o : Nat) (w : World), (w.setCells b o vs).heap.size = w.heap.size
  | [], _, _ => rfl
  | v :: vs, o, w => by
    rw [World.setCells, size_setCells_ b vs]
    simp
theorem ext_setCells_ {w0 : World} (b : Nat) (hb : w0.heap.size ≤ b) : ∀ (vs : List Value) (o : Nat) (w : World), Ext w0 w → Ext w0 (w.setCells b o vs)
  | [], _, _, h => h
  | v :: vs, o, w, h => by
    rw [World.setCells]
    exact ext_setCells_ b hb vs _ _ (h.put hb)
theorem Box.range {N b : Nat} {cs : List Value} {w : World} (h : Box N cs b w) : w.rangeAt b 0 cs := fun j v hv => by
  have hj : j < cs.length := (List.getElem?_eq_some_iff.1 hv).1
  rw [Nat.zero_add, h.cell j hj]
  exact hv
theorem Box.there {N b : Nat} {cs : List Value} {w : World} (h : Box N cs b w) : w.there b 0 cs.length := fun j hj => by
  rw [Nat.zero_add, h.cell j hj]
  exact ⟨by simp [hj], h.free j⟩
theorem Box.cellsSet {N b : Nat} {cs vs : List Value} {w : World} (h : Box N cs b w) (hl : cs.length = vs.length) : Box N vs b (w.setCells b 0 vs) := by
  refine ⟨h.base, by rw [size_setCells_]; exact h.lt, fun j hj => ?_, fun j => by rw [World.frozen?_setCells]; exact h.free j⟩
  have := World.cell?_setCells_in b vs 0 w (fun i hi => (Box.there h i (by omega)).1) j hj
  rw [Nat.zero_add] at this
  rw [this, List.getElem?_eq_getElem hj]
theorem Box.cellsOff {N b c : Nat} {cs vs : List Value} {w : World} (h : Box N cs b w) (hne : b ≠ c) : Box N cs b (w.setCells c 0 vs) :=
  ⟨h.base, by rw [size_setCells_]; exact h.lt, fun j hj => by rw [World.cell?_setCells_out c vs 0 w ⟨b, j, none⟩ (fun e _ => absurd e hne)]; exact h.cell j hj, fun j => by rw [World.frozen?_setCells]; exact h.free j⟩
/-- What a store of a whole box leaves alone. -/
structure StB (b : Nat) (w W : World) : Prop where
  ext : ∀ w0, Ext w0 w → w0.heap.size ≤ b → Ext w0 W
  box : ∀ {N' cs' b'}, Box N' cs' b' w → b' ≠ b → Box N' cs' b' W
  cell : ∀ p : Addr, p.block ≠ b → W.cell? p = w.cell? p
  frozen : ∀ p : Addr, W.frozen? p = w.frozen? p
  size : W.heap.size = w.heap.size
theorem StB.row {b B n size : Nat} {w W : World} {A : Option Addr} {xs : List Value} (h : StB b w W) (hr : Row w B size A n xs) (hA : ∀ a, A = some a → a.block ≠ b) : Row W B size A n xs := by
  refine ⟨hr.1, fun hn => ?_⟩
  obtain ⟨g, o, e, hb, hc⟩ := hr.2 hn
  refine ⟨g, o, e, hb, fun j u hu => ?_⟩
  rw [h.cell ⟨g, o + j, none⟩ (by have := hA _ e; exact this)]
  exact hc j u hu
variable {P : Program}
theorem results_cell {fn : Func} {tmps : Array Value} {a : Nat} {t : TypeId} (hf : fn.results = #[.cell a t]) {N b : Nat} {cs : List Value} {w : World} (h : Box N cs b w) (hx : tmps.getD a undef = .pointer (some ⟨b, 0, none⟩)) {d : TypeDesc}
    (hu : P.underlying t = some d) (hd : d.isRow = true) (hi : (P.info? t).map (·.size) = some cs.length) : (results fn tmps).run P w = .ok (.agg cs.toArray) w := by
  have hl := run_loadVar_mid w b 0 t cs d (Box.range h) hu hd hi
  have hx2 : tmps[a]?.getD undef = .pointer (some ⟨b, 0, none⟩) := by simpa using hx
  unfold results
  rw [hf]
  simp [hx2, asAddr, Sem.run_bind, Sem.run_pure, hl]
/-- A load of a whole box. -/
theorem wl_load {ops : Array Oper} {rest : List Oper} {op : Oper} {a : Act} {w : World} {Q : Exit → Act → World → Prop} (hgd : op.guard = none) (ty : TypeId) (x : Operand) (ho : op.op = .load ty x)
    {N b : Nat} {cs : List Value} (h : Box N cs b w) (hx : a.eval x = .pointer (some ⟨b, 0, none⟩)) {d : TypeDesc}
    (hu : P.underlying ty = some d) (hd : d.isRow = true) (hi : (P.info? ty).map (·.size) = some cs.length)
    (k : wpList P ops Q rest (a.put op.dst (.agg cs.toArray)) w) : wpList P ops Q (op :: rest) a w := wpList_load_mid hgd ty x ho b 0 hx cs d (Box.range h) hu hd hi k
/-- The same under a guard that holds. -/
theorem wl_loadG {ops : Array Oper} {rest : List Oper} {op : Oper} {a : Act} {w : World} {Q : Exit → Act → World → Prop} (hw : Region.wanted op (yielded ops a.tmps) = true) (ty : TypeId) (x : Operand) (ho : op.op = .load ty x)
    {N b : Nat} {cs : List Value} (h : Box N cs b w) (hx : a.eval x = .pointer (some ⟨b, 0, none⟩)) {d : TypeDesc}
    (hu : P.underlying ty = some d) (hd : d.isRow = true) (hi : (P.info? ty).map (·.size) = some cs.length)
    (k : wpList P ops Q rest (a.put op.dst (.agg cs.toArray)) w) : wpList P ops Q (op :: rest) a w := by
  unfold wpList
  rw [if_pos hw]
  exact .inl (wp_load_mid ty x ho b 0 hx cs d (Box.range h) hu hd hi k)
/-- A store into a whole box: the world behind it stays opaque. -/
theorem wl_store {ops : Array Oper} {rest : List Oper} {op : Oper} {a : Act} {w : World} {Q : Exit → Act → World → Prop} (hgd : op.guard = none) (ty : TypeId) (x y : Operand) (ho : op.op = .store ty x y)
    {N b : Nat} {old : List Value} (h : Box N old b w) (vs : List Value) (hx : a.eval x = .pointer (some ⟨b, 0, none⟩)) (hy : a.eval y = .agg vs.toArray) (hl : old.length = vs.length)
    (hi : (P.info? ty).map (·.size) = some vs.length) (h1 : vs.all (·.oneCell') = true)
    (k : ∀ W, Box N vs b W → StB b w W → wpList P ops Q rest (a.put op.dst undef) W) : wpList P ops Q (op :: rest) a w := by
  refine wpList_store_mid hgd ty x y ho b 0 vs.toArray hx hy (by simpa [hl] using Box.there h) (by simpa using hi) (all_oneCell_toArray (fun v hv => List.all_eq_true.1 h1 v hv)) ?_
  rw [List.toList_toArray]
  exact k _ (Box.cellsSet h hl) ⟨fun w0 e hb => ext_setCells_ b hb _ _ _ e, fun q hne => Box.cellsOff q hne, fun p hp => World.cell?_setCells_out b vs 0 w p (fun e _ => absurd e hp), fun p => World.frozen?_setCells b vs 0 w p, size_setCells_ b vs 0 w⟩
end Go.Proofs.YtbdahlfakinagaaDoor
