/- What the laws of chapter 4 share. -/
import Derived.Test.YtbdahlfakinagaaDoorDgA
set_option linter.unusedVariables false
namespace Go.Proofs.YtbdahlfakinagaaDoor
open Go.RowKit Go.Rg

/-- A slice of two slices of bytes. -/
def isTwo (l1 l2 : List Int) : Value → World → Prop := fun v w => ∃ b u1 u2, v = .slice (some ⟨b, 0, none⟩) 2 2 ∧ Cells w b [u1, u2] ∧ BS w u1 l1 ∧ BS w u2 l2
theorem isTwo.st (l1 l2 : List Int) : Stable (isTwo l1 l2) := fun _ _ _ e ⟨b, u1, u2, h1, h2, h3, h4⟩ => ⟨b, u1, u2, h1, h2.ext e, h3.lift e, h4.lift e⟩
/-- A box that holds the digest behind the bytes a. -/
def DBox (b : Nat) (cs : List Value) (a : List Int) (w : World) : Prop := Box 0 cs b w ∧ cs.length = 10 ∧ IsDg 0 w (.agg cs.toArray) a
theorem DBox.ext {b : Nat} {cs : List Value} {a : List Int} {w w' : World} (h : DBox b cs a w) (e : Ext w w') : DBox b cs a w' := ⟨h.1.ext e, h.2.1, IsDg.ext h.2.2 e⟩
theorem IsDg.cells {base : Nat} {w : World} {v : Value} {a : List Int} (h : IsDg base w v a) : ∃ cs : List Value, v = .agg cs.toArray ∧ cs.length = 10 ∧ cs.all (·.oneCell') = true ∧ IsDg base w (.agg cs.toArray) a := by
  obtain ⟨A, c, rfl, ho⟩ := h
  refine ⟨dcs (stOf a) a.length A (tlOf a).length c, rfl, ?_, ?_, A, c, rfl, ho⟩
  · rw [dcs, List.length_append, List.length_map, stOf_len]
    rfl
  · rw [dcs, List.all_append, one_cells]
    rfl
theorem by_nil : By [] := fun x hx => by cases hx
theorem BS.short {w : World} {A : Option Addr} {n c : Nat} {l : List Int} (h : BS w (.slice A n c) l) (m : Nat) : BS w (.slice A (min n m) c) (l.take m) := by
  obtain ⟨A', n', c', e, hr, hn, hc, hA⟩ := h
  injection e with e1 e2 e3
  subst e1 e2 e3
  refine ⟨_, _, _, rfl, ?_, Nat.le_trans (Nat.min_le_left _ _) hn, hc, fun e => ?_⟩
  · have hl := hr.len
    rw [bytes, List.length_map] at hl
    have := hr.take (min n m) (Nat.min_le_left _ _)
    rw [bytes, ← List.map_take] at this
    rwa [show l.take (min n m) = l.take m by
      rcases Nat.le_total n m with h | h
      · rw [Nat.min_eq_left h, List.take_of_length_le (by omega), List.take_of_length_le (by omega)]
      · rw [Nat.min_eq_right h]] at this
  · obtain ⟨h1, h2⟩ := hA e
    subst h1 h2
    exact ⟨Nat.zero_min _, rfl⟩
theorem short_bs (v : Value) (l : List Int) (m : Nat) (mi : Int) (hmi : mi = (m : Nat)) (w : World) (h : BS w v l) (hb : By l) (hm : m ≤ 1000) :
    Calls Tryd.prog 8 #[v, .int .i64 mi] w fun e w' => ∃ A n c s, e = .returned (.slice A n c) ∧ BS w (.slice A n c) s ∧ By s ∧ s.length ≤ m ∧ w = w' := by
  subst hmi
  obtain ⟨A, n, c, rfl, hr, hn, hc, hA⟩ := h
  refine (short_any A n c m w hn hc hm).mono ?_
  rintro e w' ⟨rfl, rfl⟩
  exact ⟨_, _, _, l.take m, rfl, BS.short ⟨A, n, c, rfl, hr, hn, hc, hA⟩ m, hb.take m, by rw [List.length_take]; omega, rfl⟩
theorem wl_load_dg {P : Program} {ops : Array Oper} {rest : List Oper} {op : Oper} {a : Act} {w : World} {Q : Exit → Act → World → Prop} (hgd : op.guard = none) (ty : TypeId) (x : Operand) (ho : op.op = .load ty x)
    {b : Nat} {cs : List Value} {l : List Int} (h : DBox b cs l w) (hx : a.eval x = .pointer (some ⟨b, 0, none⟩)) {d : TypeDesc} (hu : P.underlying ty = some d) (hd : d.isRow = true) (hi : (P.info? ty).map (·.size) = some 10)
    (k : wpList P ops Q rest (a.put op.dst (.agg cs.toArray)) w) : wpList P ops Q (op :: rest) a w :=
  wpList_load_mid hgd ty x ho b 0 hx cs d (Box.range h.1) hu hd (by rw [h.2.1]; exact hi) k
end Go.Proofs.YtbdahlfakinagaaDoor
