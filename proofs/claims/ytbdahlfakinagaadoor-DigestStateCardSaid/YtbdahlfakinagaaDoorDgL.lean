/- The plain laws of digests; Write and Sum over what was written. -/
import Derived.Test.YtbdahlfakinagaaDoorDgU
set_option linter.unusedVariables false
namespace Go.Proofs.YtbdahlfakinagaaDoor
open Go.RowKit Go.Rg

theorem run_append (s : List W32) (a b : List Int) : ∀ k, 64 * k ≤ a.length → run s (a ++ b) k = run s a k
  | 0, _ => rfl
  | k + 1, h => by
    rw [run, run, run_append s a b k (by omega)]
    congr 1
    rw [List.drop_append_of_le_length (by omega), List.take_append_of_le_length (by rw [List.length_drop]; omega)]
theorem run_shift (s : List W32) (bs : List Int) (k : Nat) : ∀ j, run (run s bs k) (bs.drop (64 * k)) j = run s bs (k + j)
  | 0 => rfl
  | j + 1 => by
    rw [run, run_shift s bs k j, ← Nat.add_assoc, run, List.drop_drop]
    have e : 64 * k + 64 * j = 64 * (k + j) := by omega
    rw [e]
theorem tl_append (a b : List Int) : tlOf a ++ b = (a ++ b).drop (64 * (a.length / 64)) := by
  rw [tlOf, List.drop_append_of_le_length (by omega)]
theorem st_append (a b : List Int) : run (stOf a) (tlOf a ++ b) ((tlOf a ++ b).length / 64) = stOf (a ++ b) := by
  rw [tl_append, stOf, stOf, ← run_append IL a b _ (show 64 * (a.length / 64) ≤ a.length by omega), run_shift]
  congr 1
  rw [List.length_drop, List.length_append]
  omega
theorem tl_append2 (a b : List Int) : (tlOf a ++ b).drop (64 * ((tlOf a ++ b).length / 64)) = tlOf (a ++ b) := by
  rw [tl_append, tlOf, List.drop_drop, List.length_drop, List.length_append]
  congr 1
  omega
theorem tl_len (a : List Int) : (tlOf a).length = a.length % 64 := by
  rw [tlOf, List.length_drop]
  omega
theorem pad_tl (a : List Int) : (128 : Int) :: (List.replicate (padZ (tlOf a).length) 0 ++ lenB a.length) = padOf a.length := by
  rw [padOf, tl_len, padZ, padZ]
  congr 3
  omega
/-- The value is the digest's state behind the bytes a. -/
def IsDg (base : Nat) (w : World) (v : Value) (a : List Int) : Prop := IsD base w v (stOf a) a.length (tlOf a)
theorem IsDg.ext {base : Nat} {w w' : World} {v : Value} {a : List Int} (h : IsDg base w v a) (e : Ext w w') : IsDg base w' v a := IsD.ext h e
theorem IsDg.lower {base base' : Nat} {w : World} {v : Value} {a : List Int} (h : IsDg base w v a) (e : base' ≤ base) : IsDg base' w v a := by
  obtain ⟨A, c, h1, h2⟩ := h
  exact ⟨A, c, h1, own_lower h2 e⟩
theorem By.drop {l : List Int} (h : By l) (n : Nat) : By (l.drop n) := fun x hx => h x (List.mem_of_mem_drop hx)
theorem By.take {l : List Int} (h : By l) (n : Nat) : By (l.take n) := fun x hx => h x (List.mem_of_mem_take hx)
theorem start_dg (w : World) (hg : Glob w) (base : Nat) : Calls Tryd.prog 15 #[] w fun e w' => ∃ v, e = .returned v ∧ IsDg base w' v [] ∧ Ext w w' := by
  refine (start_any w hg).mono ?_
  rintro e w' ⟨rfl, hE⟩
  exact ⟨_, rfl, ⟨none, 0, rfl, rfl, .inl ⟨rfl, rfl⟩⟩, hE⟩
theorem write_dg (base : Nat) (v : Value) (a : List Int) (D : Option Addr) (k d : Nat) (bl : List Int) (w : World) (hg : Glob w) (hg2 : 2 ≤ w.heap.size) (hv : IsDg base w v a) (hB : BS w (.slice D k d) bl) (ha : By a) (hb : By bl) (hn : a.length + bl.length ≤ 549755813888) :
    Calls Tryd.prog 16 #[v, .slice D k d] w fun e w' => ∃ v', e = .returned v' ∧ IsDg w.heap.size w' v' (a ++ bl) ∧ Ext w w' := by
  obtain ⟨A, c, rfl, hown⟩ := hv
  have ht := tl_len a
  refine (write_core (stOf a) (stOf_len a) a.length A (tlOf a).length c (tlOf a) D k d bl w hg hg2 (BS.of_own hown) hB (ha.drop _) hb (by omega) (by omega)).mono ?_
  rintro e w' ⟨v, rfl, h, hE⟩
  rw [st_append, tl_append2] at h
  refine ⟨v, rfl, ?_, hE⟩
  unfold IsDg
  rw [List.length_append]
  exact h
theorem sum_dg (base : Nat) (v : Value) (a : List Int) (w : World) (hg : Glob w) (hg2 : 2 ≤ w.heap.size) (hv : IsDg base w v a) (ha : By a) (hn : a.length ≤ 549755813888) :
    Calls Tryd.prog 17 #[v] w fun e w' => ∃ u, e = .returned u ∧ w'.ownsRow w.heap.size 5 1 u 32 (bytes (shaOf a)) ∧ Ext w w' := by
  obtain ⟨A, c, rfl, hown⟩ := hv
  have ht := tl_len a
  refine (sum_core (stOf a) (stOf_len a) a.length A (tlOf a).length c (tlOf a) w hg hg2 (BS.of_own hown) (ha.drop _) (by omega) (by omega)).mono ?_
  rintro e w' ⟨v, rfl, h, hE⟩
  rw [pad_tl, st_append] at h
  exact ⟨v, rfl, h, hE⟩
theorem state_dg (D : Option Addr) (k d : Nat) (bl : List Int) (w : World) (hB : BS w (.slice D k d) bl) (hb : By bl) (hl : bl.length ≤ 549755813888) :
    Calls Tryd.prog 19 #[.slice D k d] w fun e w' => ∃ v, e = .returned v ∧ IsDg w.heap.size w' v bl ∧ Ext w w' := refState_core D k d bl w hB hb (by omega)
end Go.Proofs.YtbdahlfakinagaaDoor
