/- An argument of the type [][]byte, opened: its rows, and the form's reach for each. -/
import Derived.Test.YtphbmibgnnobcaaOpen
import Derived.Test.YtphbmibgnnobcaaQueue5
import Derived.SizedLaws
set_option linter.unusedVariables false
namespace Go.Proofs.Ytphbmibgnnobcaa
open Go.ChangeShapes Go.WideShapes Go.ChangeAt Go.RowKit Go.Deep Go.Rg
section
variable {H : Type} {enc : TypeId × Value → H} {w : World} {spare : Nat → Bool} {held : Bool} {r : Reach} {b0 : Nat} {v : Value} {d : DataW H} {p : List MemPlace}
theorem weightsAll_mem {P : Program} {e : TypeId} : ∀ {l : List (DataW H)} {d : DataW H}, d ∈ l → ∀ n ∈ d.weights P e, n ∈ DataW.weightsAll P e l
  | d' :: r, d, hd, n, hn => by
    simp only [DataW.weightsAll, List.mem_append]
    rcases List.mem_cons.1 hd with rfl | h
    · exact Or.inl hn
    · exact Or.inr (weightsAll_mem h n hn)
theorem row1_data {t e : TypeId} {x : Value} {fuel : Nat} {y : DataW H × List MemPlace} (ht : Try.prog.underlying t = some (.slice e)) (hc : Try.prog.cellsOf e = 1) (hf : DataW.trod enc Try.prog w 0 spare held fuel t [x] = some y) :
    ∃ A n c V, x = .slice A n c ∧ ArgRow w A n c ((List.range n).map V) ∧ (0 < n → n * Try.prog.bytesOf e ≤ (y.1.weights Try.prog t).headD 0) ∧
      ∀ i, i < n → ∃ fuel y', DataW.trod enc Try.prog w 0 spare held fuel e [V i] = some y' ∧ ∀ z ∈ y'.1.weights Try.prog e, z ∈ y.1.weights Try.prog t := by
  obtain ⟨A, n, c, V, rfl, ha, _⟩ := row1_cells ht hc hf
  rcases open_slice1 ht hc hf with ⟨hcs, _⟩ | ⟨a, len, cap, m, n', V', D, Pl, hcs, _, hl, hm, hmm, hy, hi⟩
  · simp at hcs
    obtain ⟨rfl, rfl, rfl⟩ := hcs
    exact ⟨_, 0, 0, V, rfl, ha, fun h => absurd h (by omega), fun i h => absurd h (by omega)⟩
  · simp at hcs
    obtain ⟨rfl, rfl, rfl⟩ := hcs
    have hml : n ≤ m := by rw [hmm]; split <;> omega
    subst hy
    refine ⟨_, n, c, V, rfl, ha, fun _ => ?_, fun i hin => ?_⟩
    · simp only [DataW.weights, ht, List.headD_cons, List.length_map, List.length_range]
      exact Nat.mul_le_mul_right _ (Nat.le_add_right _ _)
    · have h0 := (hi i (by omega))
      have hV : V' i = V i := by
        obtain ⟨b, o, e, _, hcell⟩ := ha.1.2 (by omega)
        injection e with e
        subst e
        have := hcell i (V i) (by simp [hin])
        rw [add_off] at h0
        rw [h0.1] at this
        exact Option.some.inj this
      rw [hV] at h0
      refine ⟨_, _, h0.2, fun z hz => ?_⟩
      simp only [DataW.weights, ht, List.mem_cons, List.mem_append]
      exact .inr (.inl (weightsAll_mem (List.mem_map.2 ⟨i, by simpa using hin, rfl⟩) z hz))
theorem sliceCells : Try.prog.cellsOf 26 = 1 := by kernel_rfl
theorem byteBytes : Try.prog.bytesOf 5 = 1 := by kernel_rfl
theorem cell_bytes_ {fuel : Nat} {x : Value} {y : DataW H × List MemPlace} (hf : DataW.trod enc Try.prog w 0 spare held fuel 26 [x] = some y) (hw : ∀ z ∈ y.1.weights Try.prog 26, z ≤ reachBytes) : ∃ l : List Int, BS w x l ∧ l.length ≤ 140737488355328 := by
  obtain ⟨A, n, c, l, rfl, ha, _⟩ := cell_bytes hf
  obtain ⟨A', n', c', V, e, _, hb, _⟩ := row1_data Try.underlying26 byteCells hf
  injection e with _ e2 _
  subst e2
  refine ⟨l, ⟨A, n, c, rfl, ha.1, ha.2.1, ha.2.2.1, ha.2.2.2⟩, ?_⟩
  have hl : l.length = n := by have := ha.1.len; simpa using this
  rw [hl]
  rcases Nat.eq_zero_or_pos n with h0 | h0
  · omega
  · have h1 := hb h0
    rw [byteBytes, Nat.mul_one] at h1
    have h2 : (y.1.weights Try.prog 26).headD 0 ≤ reachBytes := by
      cases h : y.1.weights Try.prog 26 with
      | nil => simp
      | cons z r => simp only [List.headD_cons]; exact hw z (by rw [h]; simp)
    have h3 : reachBytes ≤ 140737488355328 := by decide
    omega
theorem choose_two (n : Nat) (V : Nat → Value) (q : Value → List Int → Prop) (h : ∀ i, i < n → ∃ l, q (V i) l) : ∃ ls : List (List Int), ls.length = n ∧ ∀ (k : Nat) (v : Value) (l : List Int), ((List.range n).map V)[k]? = some v → ls[k]? = some l → q v l := by
  induction n with
  | zero => exact ⟨[], rfl, fun k v l h1 => by simp at h1⟩
  | succ n ih =>
    obtain ⟨ls, hl, hq⟩ := ih fun i hi => h i (by omega)
    obtain ⟨l, hlq⟩ := h n (by omega)
    refine ⟨ls ++ [l], by simp [hl], fun k v l' h1 h2 => ?_⟩
    rcases Nat.lt_or_ge k n with hk | hk
    · rw [List.getElem?_append_left (by omega)] at h2
      refine hq k v l' ?_ h2
      simp only [List.getElem?_map] at h1 ⊢
      rw [List.getElem?_range (by omega)] at h1
      rw [List.getElem?_range hk]
      exact h1
    · rcases Nat.lt_or_ge n k with hk2 | hk2
      · simp only [List.getElem?_map] at h1
        rw [List.getElem?_eq_none (by simp; omega)] at h1
        simp at h1
      · obtain rfl : k = n := by omega
        rw [List.getElem?_append_right (by omega), hl] at h2
        simp at h1 h2
        subst h1 h2
        exact hlq
theorem open_bytess (hv : Value.okWide Try.prog w r b0 70 v) (h : DataW.Trod enc Try.prog w 0 spare held 70 v d p) (hw : ∀ z ∈ d.weights Try.prog 70, z ≤ reachBytes) :
    ∃ A n c, ∃ (lv : List Value) (ls : List (List Int)), v = .slice A n c ∧ Row w w.heap.size 1 A n lv ∧ VB w lv ls ∧ n ≤ c ∧ c ≤ 9223372036854775807 ∧ ∀ lb ∈ ls, lb.length ≤ 140737488355328 := by
  obtain ⟨a0, len, cap, rfl⟩ := okWide_slice Try.underlying70 hv
  obtain ⟨fuel, hf⟩ := h
  obtain ⟨A, n, c, V, e, ha, _, hi⟩ := row1_data (x := .slice a0 len cap) Try.underlying70 sliceCells (by simpa [Value.cells] using hf)
  obtain ⟨ls, hl, hq⟩ := choose_two n V (fun v l => BS w v l ∧ l.length ≤ 140737488355328) fun i hin => by
    obtain ⟨f, y', ht, hz⟩ := hi i hin
    exact cell_bytes_ ht fun z hz' => hw z (hz z hz')
  refine ⟨A, n, c, (List.range n).map V, ls, e, ha.1, ⟨by simp [hl], fun k v l h1 h2 => (hq k v l h1 h2).1⟩, ha.2.1, ha.2.2.1, fun lb hlb => ?_⟩
  obtain ⟨k, hk, e'⟩ := List.getElem_of_mem hlb
  exact (hq k (V k) lb (by rw [List.getElem?_map, List.getElem?_range (by omega)]; rfl) (List.getElem?_eq_some_iff.2 ⟨hk, e'⟩)).2
end
end Go.Proofs.Ytphbmibgnnobcaa
