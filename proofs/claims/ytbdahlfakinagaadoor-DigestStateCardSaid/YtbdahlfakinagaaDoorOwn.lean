/- Rows that a call owns: what is kept, and how they grow (for the seats without XSource). -/
import Derived.Test.YtbdahlfakinagaaDoorRg
import Derived.Test.YtbdahlfakinagaaDoorRow
import Derived.OwnWalk
import Derived.Deep.QuietTactic
import Derived.BigQuiet
set_option linter.unusedVariables false
namespace Go.Proofs.YtbdahlfakinagaaDoor
open Go.RowKit Go.Rg

theorem _root_.Go.Rg.Box.set_ {w : World} {N b : Nat} {cs : List Value} (h : Box N cs b w) (k : Nat) (v : Value) (hk : k < cs.length) : Box N (cs.set k v) b (w.setCell ⟨b, k, none⟩ v) :=
  ⟨h.base, by simpa using h.lt, fun j hj => by
    by_cases e : j = k
    · subst e
      rw [World.cell?_setCell_same _ _ _ (u := cs[j]'hk) (by rw [h.cell j hk]; exact List.getElem?_eq_getElem hk)]
      simp [hk]
    · rw [World.cell?_setCell_other _ _ _ _ (fun q => e (by injection q with _ q; exact q.symm))]
      rw [h.cell j (by simpa using hj), List.getElem?_set_ne (fun x => e x.symm)], fun j => by simpa using h.free j⟩
theorem _root_.Go.Rg.Box.other {w : World} {N b : Nat} {cs : List Value} (h : Box N cs b w) {p : Addr} (hp : p.block ≠ b) (v : Value) : Box N cs b (w.setCell p v) :=
  ⟨h.base, by simpa using h.lt, fun j hj => by rw [World.cell?_setCell_other _ _ _ _ (fun e => hp (by rw [e]))]; exact h.cell j hj, fun j => by simpa using h.free j⟩
theorem _root_.Go.Rg.Box.grown {w w' : World} {N b : Nat} {cs : List Value} {row : Option Nat} (h : Box N cs b w) (hg : w.grownBy w' row) (hne : row ≠ some b) : Box N cs b w' :=
  ⟨h.base, Nat.lt_of_lt_of_le h.lt hg.size, fun j hj => by rw [World.cell?_of_block (a := ⟨b, j, none⟩) (hg.block b h.lt (fun e => hne e.symm))]; exact h.cell j hj, fun j => by
    rw [World.frozen?_of_block (a := ⟨b, j, none⟩) (hg.block b h.lt (fun e => hne e.symm))]; exact h.free j⟩

theorem own_ext {w w' : World} {base n size : Nat} {e : TypeId} {v : Value} {xs : List Value} (h : w.ownsRow base e size v n xs) (hE : Ext w w') : w'.ownsRow base e size v n xs := by
  refine ⟨h.1, ?_⟩
  rcases h.2 with h1 | ⟨g, cap, cur, hv, hb, hg, h2⟩
  · exact .inl h1
  · refine .inr ⟨g, cap, cur, hv, hb, ?_, h2⟩
    have hlt : g < w.heap.size := by
      rcases Nat.lt_or_ge g w.heap.size with h | h
      · exact h
      · rw [Array.getElem?_eq_none h] at hg; cases hg
    rw [hE.block g hlt]; exact hg
theorem own_setCell {w : World} {base n size : Nat} {e : TypeId} {v : Value} {xs : List Value} (h : w.ownsRow base e size v n xs) {p : Addr} (hp : p.block < base) (u : Value) : (w.setCell p u).ownsRow base e size v n xs := ownsRow_setCell_below h hp u
theorem own_row {w : World} {base n : Nat} {e : TypeId} {A : Option Addr} {c : Nat} {xs : List Value} (h : w.ownsRow base e 1 (.slice A n c) n xs) : Row w w.heap.size 1 A n xs := by
  refine ⟨h.1, fun hn => ?_⟩
  rcases h.2 with ⟨_, h2⟩ | ⟨g, cap, cur, hv, _, hg, h3, h4, h5, h6⟩
  · omega
  · have hA : A = some ⟨g, 0, none⟩ := by injection hv
    have hlt : g < w.heap.size := by
      rcases Nat.lt_or_ge g w.heap.size with h | h
      · exact h
      · rw [Array.getElem?_eq_none h] at hg; cases hg
    refine ⟨g, 0, hA, hlt, fun j u hu => ?_⟩
    rw [← h6] at hu
    have hj : j < n := by
      have := (List.getElem?_eq_some_iff.1 hu).1
      simp at this
      omega
    rw [List.getElem?_take, if_pos (by omega)] at hu
    unfold World.cell?
    simp only [hg, Nat.zero_add]
    simpa using hu
theorem own_form {w : World} {base n : Nat} {e : TypeId} {v : Value} {xs : List Value} (h : w.ownsRow base e 1 v n xs) : ∃ A c, v = .slice A n c ∧ n ≤ c ∧ c ≤ 9223372036854775807 := by
  rcases h.2 with ⟨h1, h2⟩ | ⟨g, cap, cur, hv, _, _, h3, h4, _⟩
  · exact ⟨none, 0, by rw [h1, h2], by omega, by omega⟩
  · exact ⟨_, cap, hv, h3, h4⟩
theorem own_ne {w : World} {base n size b : Nat} {e : TypeId} {v : Value} {xs : List Value} (h : w.ownsRow base e size v n xs) (hb : b < base) : v.ownBlock ≠ some b := by
  rcases h.2 with ⟨h1, _⟩ | ⟨g, cap, cur, hv, hbg, _⟩
  · rw [h1]; simp [Value.ownBlock]
  · rw [hv]; simp only [Value.ownBlock]; intro q; injection q with q; omega
theorem _root_.Go.Rg.Ext.grown {w w1 w2 : World} {base n size : Nat} {e : TypeId} {v : Value} {xs : List Value} (h : Ext w w1) (hown : w1.ownsRow base e size v n xs) (hb : w.heap.size ≤ base) (hg : w1.grownBy w2 v.ownBlock) : Ext w w2 := by
  refine ⟨hg.os.trans h.os, hg.tape.trans h.tape, hg.output.trans h.output, Nat.le_trans h.size hg.size, fun k hk => ?_⟩
  have hsz := h.size
  refine (hg.block k (by omega) ?_).trans (h.block k hk)
  rcases hown.2 with ⟨h1, _⟩ | ⟨g, cap, cur, hv, hbg, _⟩
  · rw [h1]; simp [Value.ownBlock]
  · rw [hv]; simp only [Value.ownBlock]; intro q; injection q with q; omega
theorem own_empty (X : World) (base : Nat) (e : TypeId) (hb : base ≤ X.heap.size) : (X.alloc (.cells #[] e)).ownsRow base e 1 (.slice (some ⟨X.heap.size, 0, none⟩) 0 0) 0 [] := by
  refine ⟨rfl, .inr ⟨X.heap.size, 0, #[], rfl, hb, ?_, Nat.le_refl _, by simp [maxLen], rfl, rfl⟩⟩
  unfold World.alloc
  exact Array.getElem?_push_size
end Go.Proofs.YtbdahlfakinagaaDoor
