/- SHA-256: what a block does to a state. -/
import Derived.Test.YtbdahlfakinagaaDoorD2
import Derived.Test.YtbdahlfakinagaaDoorCfgS
import Derived.Test.YtbdahlfakinagaaDoorByt
set_option linter.unusedVariables false
namespace Go.Proofs.YtbdahlfakinagaaDoor
open Go.RowKit Go.Rg

/-- The word k of a block. -/
def wordAt (bs : List Int) (k : Nat) : W32 := BitVec.ofInt 32 (bs.getD (4 * k) 0) <<< 24 ||| BitVec.ofInt 32 (bs.getD (4 * k + 1) 0) <<< 16 ||| BitVec.ofInt 32 (bs.getD (4 * k + 2) 0) <<< 8 ||| BitVec.ofInt 32 (bs.getD (4 * k + 3) 0)
def sg0 (x : W32) : W32 := rr 7 x ^^^ rr 18 x ^^^ (x >>> 3)
def sg1 (x : W32) : W32 := rr 17 x ^^^ rr 19 x ^^^ (x >>> 10)
def zero64 : List W32 := List.replicate 64 0
def fill1 (bs : List Int) : Nat → List W32
  | 0 => zero64
  | k + 1 => (fill1 bs k).set k (wordAt bs k)
def nextW (ws : List W32) (i : Nat) : W32 := ws.getD (i - 16) 0 + sg0 (ws.getD (i - 15) 0) + ws.getD (i - 7) 0 + sg1 (ws.getD (i - 2) 0)
def fill2 (bs : List Int) : Nat → List W32
  | 0 => fill1 bs 16
  | k + 1 => (fill2 bs k).set (16 + k) (nextW (fill2 bs k) (16 + k))
def sched (bs : List Int) : List W32 := fill2 bs 48
theorem fill1_len (bs : List Int) : ∀ k, (fill1 bs k).length = 64
  | 0 => rfl
  | k + 1 => by rw [fill1, List.length_set]; exact fill1_len bs k
theorem fill2_len (bs : List Int) : ∀ k, (fill2 bs k).length = 64
  | 0 => fill1_len bs 16
  | k + 1 => by rw [fill2, List.length_set]; exact fill2_len bs k
theorem sched_len (bs : List Int) : (sched bs).length = 64 := fill2_len bs 48
/-- Words in a box. -/
theorem wput {N k : Nat} {ws : List W32} {W : World} {v : W32} (h : Box 0 (ws.map bw) N W) (hk : k < ws.length) : Box 0 ((ws.set k v).map bw) N (W.setCell ⟨N, k, none⟩ (bw v)) :=
  Box.put h (by rw [List.map_set]) (by simpa using hk)
/-- The bytes of a block, where they lie. -/
def BytesAt (b o n : Nat) (bs : List Int) (w : World) : Prop := (∀ k, k < n → w.cell? ⟨b, o + k, none⟩ = some (.int .u8 (bs.getD k 0))) ∧ ∀ k, 0 ≤ bs.getD k 0 ∧ bs.getD k 0 ≤ 255
theorem BytesAt.ext {b o n : Nat} {bs : List Int} {w w' : World} (h : BytesAt b o n bs w) (e : Ext w w') : BytesAt b o n bs w' := ⟨fun k hk => Ext.cell e (h.1 k hk), h.2⟩
theorem bytesAt_of {b o n : Nat} {bs : List Int} {w : World} (h : ∀ j u, (bytes bs)[j]? = some u → w.cell? ⟨b, o + j, none⟩ = some u) (hn : bs.length = n) (hb : ∀ x ∈ bs, 0 ≤ x ∧ x ≤ 255) : BytesAt b o n bs w := by
  refine ⟨fun k hk => ?_, fun k => ?_⟩
  · have hk' : k < bs.length := by omega
    refine h k _ ?_
    rw [bytes, List.getElem?_map, List.getElem?_eq_getElem hk', List.getD_eq_getElem?_getD, List.getElem?_eq_getElem hk']
    rfl
  · rw [List.getD_eq_getElem?_getD]
    rcases Nat.lt_or_ge k bs.length with h1 | h1
    · rw [List.getElem?_eq_getElem h1]
      exact hb _ (List.getElem_mem h1)
    · rw [List.getElem?_eq_none h1]
      exact ⟨Int.le_refl 0, by decide⟩
theorem one_cells (ws : List W32) : (ws.map bw).all (·.oneCell') = true := by
  rw [List.all_map]
  exact List.all_eq_true.2 fun _ _ => rfl
abbrev wv (ws : List W32) : Value := .agg (ws.map bw).toArray
end Go.Proofs.YtbdahlfakinagaaDoor
