/- The arguments of the laws, opened: what a value of each type is. -/
import Derived.Test.YtbdahlfakinagaaDoorRow
import Derived.Test.YtbdahlfakinagaaDoorPlus
import Derived.ProofKit
import Derived.Lib.SmallJoins
import Derived.Deep.Slices
import Derived.Deep.Fields
set_option linter.unusedVariables false
namespace Go.Proofs.YtbdahlfakinagaaDoor
open Go.ChangeShapes Go.WideShapes Go.ChangeAt Go.RowKit Go.Deep

/-- n is an int. -/
def I64 (n : Int) : Prop := -9223372036854775808 ≤ n ∧ n ≤ 9223372036854775807
theorem i64_of_wf {n : Int} (h : (Lit.int .i64 n).wf = true) : I64 n := by
  simp [Lit.wf, IntKind.min, IntKind.max, IntKind.signed, IntKind.bits] at h
  exact ⟨by omega, by omega⟩
theorem u8_of_wf {n : Int} (h : (Lit.int .u8 n).wf = true) : 0 ≤ n ∧ n ≤ 255 := by
  simp [Lit.wf, IntKind.min, IntKind.max, IntKind.signed, IntKind.bits] at h
  exact ⟨by omega, by omega⟩

theorem own : ownKnob Tryd.prog.godebug = Option.none := by kernel_rfl
theorem intCells : Tryd.prog.cellsOf 3 = 1 := by kernel_rfl
theorem laidOut : laidOutB Tryd.prog = true := by kernel_rfl

section
variable {H : Type} {enc : TypeId × Value → H} {w : World} {spare : Nat → Bool} {held : Bool} {r : Reach} {b0 : Nat} {v : Value} {d : DataW H} {p : List MemPlace}

theorem open_i64 (hv : Value.okWide Tryd.prog w r b0 3 v) (h : DataW.Trod enc Tryd.prog w 0 spare held 3 v d p) : ∃ n, v = .int .i64 n ∧ I64 n := by
  obtain ⟨n, rfl, _, _, hw⟩ := open_int Tryd.underlying3 hv h
  exact ⟨n, rfl, i64_of_wf hw⟩
theorem open_boolean (hv : Value.okWide Tryd.prog w r b0 4 v) (h : DataW.Trod enc Tryd.prog w 0 spare held 4 v d p) : ∃ b, v = .bool b := by
  obtain ⟨b, rfl, _, _⟩ := open_bool Tryd.underlying4 hv h
  exact ⟨b, rfl⟩
theorem cell_i64 {fuel : Nat} {x : Value} {y : DataW H × List MemPlace} (h : DataW.trod enc Tryd.prog w 0 spare held fuel 3 [x] = some y) : ∃ n, x = .int .i64 n ∧ I64 n := by
  obtain ⟨n, hc, _, hw⟩ := DataW.trod_int Tryd.underlying3 h
  simp at hc
  exact ⟨n, hc, i64_of_wf hw⟩


theorem spot_none {x : Addr} {u : Value} (h : w.cell? x = some u) : x = ⟨x.block, x.off, Option.none⟩ := by
  have := World.cell?_spot h
  cases x; simp_all
/-- The slice value '.slice A n c' is an argument that reads as xs (one cell an element). -/
def ArgRow (w : World) (A : Option Addr) (n c : Nat) (xs : List Value) : Prop := Row w w.heap.size 1 A n xs ∧ n ≤ c ∧ c ≤ 9223372036854775807 ∧ (A = Option.none → n = 0 ∧ c = 0)
theorem add_off (b o k : Nat) : (Addr.mk b o Option.none).add k = ⟨b, o + k, Option.none⟩ := by unfold Addr.add; split <;> simp_all
theorem add_block (a : Addr) (k : Nat) : (a.add k).block = a.block := by unfold Addr.add; split <;> rfl

theorem row1_cells {t e : TypeId} {x : Value} {fuel : Nat} {y : DataW H × List MemPlace} (ht : Tryd.prog.underlying t = some (.slice e)) (hc : Tryd.prog.cellsOf e = 1) (hf : DataW.trod enc Tryd.prog w 0 spare held fuel t [x] = some y) :
    ∃ A n c V, x = .slice A n c ∧ ArgRow w A n c ((List.range n).map V) ∧ ∀ i, i < n → ∃ fuel y, DataW.trod enc Tryd.prog w 0 spare held fuel e [V i] = some y := by
  rcases open_slice1 ht hc hf with ⟨hcs, _⟩ | ⟨a, len, cap, m, n, V, D, Pl, hcs, _, hl, hm, hmm, _, hi⟩
  · simp at hcs
    subst hcs
    exact ⟨Option.none, 0, 0, fun _ => undef, rfl, ⟨⟨by simp, fun h => absurd h (by omega)⟩, by omega, by omega, fun _ => ⟨rfl, rfl⟩⟩, fun i h => absurd h (by omega)⟩
  · simp at hcs
    subst hcs
    have hml : len ≤ m := by rw [hmm]; split <;> omega
    unfold maxLen at hm
    refine ⟨some a, len, cap, V, rfl, ⟨⟨by simp, fun hn => ?_⟩, hl, hm, fun h => by cases h⟩, fun i h => ⟨n, _, (hi i (by omega)).2⟩⟩
    have h0 := (hi 0 (by omega)).1
    have ha : a = ⟨a.block, a.off, Option.none⟩ := by have := spot_none h0; simpa [Addr.add] using this
    refine ⟨a.block, a.off, by rw [← ha], ?_, fun j u hu => ?_⟩
    · have := Go.heap_lt_of_isSome (w := w) (a := a.add 0) (by rw [h0]; rfl)
      simpa [add_block] using this
    · rw [List.getElem?_map] at hu
      have hj : j < len := by
        rcases Nat.lt_or_ge j len with h | h
        · exact h
        · rw [List.getElem?_eq_none (by simpa using h)] at hu; cases hu
      rw [List.getElem?_range hj] at hu
      simp at hu
      subst hu
      have := (hi j (by omega)).1
      rw [ha, add_off] at this
      exact this
theorem open_row1 {t e : TypeId} (ht : Tryd.prog.underlying t = some (.slice e)) (hc : Tryd.prog.cellsOf e = 1) (hv : Value.okWide Tryd.prog w r b0 t v) (h : DataW.Trod enc Tryd.prog w 0 spare held t v d p) :
    ∃ A n c V, v = .slice A n c ∧ ArgRow w A n c ((List.range n).map V) ∧ ∀ i, i < n → ∃ fuel y, DataW.trod enc Tryd.prog w 0 spare held fuel e [V i] = some y := by
  obtain ⟨a0, len, cap, rfl⟩ := okWide_slice ht hv
  obtain ⟨fuel, hf⟩ := h
  exact row1_cells ht hc (by simpa [Value.cells] using hf)

theorem cell_bool {fuel : Nat} {x : Value} {y : DataW H × List MemPlace} (h : DataW.trod enc Tryd.prog w 0 spare held fuel 4 [x] = some y) : ∃ b, x = .bool b := by
  obtain ⟨b, hc, _⟩ := DataW.trod_bool Tryd.underlying4 h
  simp at hc
  exact ⟨b, hc⟩
theorem choose_list {α : Type} [Inhabited α] (n : Nat) (V : Nat → Value) (f : α → Value) (h : ∀ i, i < n → ∃ x, V i = f x) : ∃ l : List α, l.length = n ∧ (List.range n).map V = l.map f := by
  induction n with
  | zero => exact ⟨[], rfl, rfl⟩
  | succ n ih =>
    obtain ⟨l, hl, he⟩ := ih fun i hi => h i (by omega)
    obtain ⟨x, hx⟩ := h n (by omega)
    exact ⟨l ++ [x], by simp [hl], by rw [List.range_succ, List.map_append, he]; simp [hx]⟩
theorem choose_list2 {α : Type} [Inhabited α] (n : Nat) (V : Nat → Value) (f : α → Value) (q : α → Prop) (h : ∀ i, i < n → ∃ x, V i = f x ∧ q x) : ∃ l : List α, l.length = n ∧ (List.range n).map V = l.map f ∧ ∀ x ∈ l, q x := by
  induction n with
  | zero => exact ⟨[], rfl, rfl, by simp⟩
  | succ n ih =>
    obtain ⟨l, hl, he, hq⟩ := ih fun i hi => h i (by omega)
    obtain ⟨x, hx, hqx⟩ := h n (by omega)
    exact ⟨l ++ [x], by simp [hl], by rw [List.range_succ, List.map_append, he]; simp [hx], by
      intro y hy
      rcases List.mem_append.1 hy with hy | hy
      · exact hq y hy
      · simp at hy; subst hy; exact hqx⟩


theorem flat_at {α : Type} (s : Nat) (hs : 0 < s) (C : Nat → List α) : ∀ (n : Nat), (∀ i, i < n → (C i).length = s) → ((List.range n).flatMap C).length = n * s ∧ ∀ j, j < n * s → ((List.range n).flatMap C)[j]? = (C (j / s))[j % s]?
  | 0, _ => ⟨by simp, fun j h => absurd h (by omega)⟩
  | n + 1, h => by
    obtain ⟨hl, ih⟩ := flat_at s hs C n fun i hi => h i (by omega)
    rw [List.range_succ, List.flatMap_append]
    simp only [List.flatMap_cons, List.flatMap_nil, List.append_nil]
    refine ⟨by rw [List.length_append, hl, h n (by omega), Nat.add_mul, Nat.one_mul], fun j hj => ?_⟩
    rcases Nat.lt_or_ge j (n * s) with h1 | h1
    · rw [List.getElem?_append_left (by omega)]; exact ih j h1
    · rw [List.getElem?_append_right (by omega), hl]
      rw [Nat.add_mul, Nat.one_mul] at hj
      have e1 : j / s = n := by
        apply Nat.div_eq_of_lt_le
        · rw [Nat.mul_comm] at h1; rw [Nat.mul_comm]; exact h1
        · rw [Nat.add_mul, Nat.one_mul]; exact hj
      have e2 : j % s = j - n * s := by
        have := Nat.div_add_mod j s
        rw [e1, Nat.mul_comm] at this
        omega
      rw [e1, e2]

theorem open_rowN {t e : TypeId} {s : Nat} (hs : 0 < s) (ht : Tryd.prog.underlying t = some (.slice e)) (hc : Tryd.prog.cellsOf e = s) (hv : Value.okWide Tryd.prog w r b0 t v) (h : DataW.Trod enc Tryd.prog w 0 spare held t v d p) :
    ∃ A n c, ∃ C : Nat → List Value, v = .slice A n c ∧ Row w w.heap.size s A n ((List.range n).flatMap C) ∧ n ≤ c ∧ c ≤ 9223372036854775807 ∧ (A = Option.none → n = 0 ∧ c = 0) ∧
      ∀ i, i < n → (C i).length = s ∧ ∃ fuel y, DataW.trod enc Tryd.prog w 0 spare held fuel e (C i) = some y := by
  obtain ⟨a0, len, cap, rfl⟩ := okWide_slice ht hv
  obtain ⟨fuel, hf⟩ := h
  rcases open_slice ht hf with ⟨hcs, _⟩ | ⟨a, l, c, m, n, D, Pl, hcs, _, hl, hm, hmm, _, hi⟩
  · simp [Value.cells] at hcs
    obtain ⟨rfl, rfl, rfl⟩ := hcs
    exact ⟨Option.none, 0, 0, fun _ => [], rfl, ⟨by simp, fun h => absurd h (by omega)⟩, by omega, by omega, fun _ => ⟨rfl, rfl⟩, fun i h => absurd h (by omega)⟩
  · simp [Value.cells] at hcs
    obtain ⟨rfl, rfl, rfl⟩ := hcs
    have hml : len ≤ m := by rw [hmm]; split <;> omega
    unfold maxLen at hm
    rw [hc] at hi
    obtain ⟨C, hC⟩ : ∃ C : Nat → List Value, ∀ i, i < m → w.cells? 0 (a.add (i * s)) s = some (C i) ∧ DataW.trod enc Tryd.prog w 0 spare held n e (C i) = some (D i, Pl i) :=
      ⟨fun i => if h : i < m then Classical.choose (hi i h) else [], fun i h => by simp only [dif_pos h]; exact Classical.choose_spec (hi i h)⟩
    have hlen : ∀ i, i < len → (C i).length = s := fun i h => (World.cells?_some (hC i (by omega)).1).2.1
    obtain ⟨f1, f2⟩ := flat_at s hs C len hlen
    refine ⟨some a, len, cap, C, rfl, ⟨f1, fun hn => ?_⟩, hl, hm, (fun h => by cases h), fun i h => ⟨hlen i h, n, _, (hC i (by omega)).2⟩⟩
    have hcell : ∀ i, i < len → ∀ j, j < s → w.cell? ((a.add (i * s)).add j) = (C i)[j]? := fun i h j hj => (World.cells?_some (hC i (by omega)).1).2.2 j hj
    have h0 : w.cell? (a.add 0) = (C 0)[0]? := by have := hcell 0 hn 0 hs; simpa [Addr.add] using this
    have h0' : (C 0)[0]? = some ((C 0)[0]'(by rw [hlen 0 hn]; exact hs)) := List.getElem?_eq_getElem _
    rw [h0'] at h0
    have ha : a = ⟨a.block, a.off, Option.none⟩ := by have := spot_none h0; simpa [Addr.add] using this
    refine ⟨a.block, a.off, by rw [← ha], ?_, fun j u hu => ?_⟩
    · have := Go.heap_lt_of_isSome (w := w) (a := a.add 0) (by rw [h0]; rfl)
      simpa [add_block] using this
    · have hj : j < len * s := by rw [← f1]; exact (List.getElem?_eq_some_iff.1 hu).1
      rw [f2 j hj] at hu
      have hjl : j / s < len := by rw [Nat.div_lt_iff_lt_mul hs]; exact hj
      have := hcell (j / s) hjl (j % s) (Nat.mod_lt _ hs)
      rw [hu] at this
      rw [ha, add_off, add_off, Nat.add_assoc, Nat.mul_comm, Nat.div_add_mod] at this
      exact this
end
end Go.Proofs.YtbdahlfakinagaaDoor
