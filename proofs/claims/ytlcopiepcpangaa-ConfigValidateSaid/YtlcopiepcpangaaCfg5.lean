/- Sources: one step, Of. -/
import Derived.Test.YtlcopiepcpangaaCfg2
import Derived.Test.YtlcopiepcpangaaSrcPlanC
import Derived.Test.YtlcopiepcpangaaCfgS
set_option linter.unusedVariables false
namespace Go.Proofs.Ytlcopiepcpangaa
open Go.RowKit Go.Rg

theorem SE.boxx {s N b : Nat} {cs : List Value} {w w' : World} (k : SE s w w') (h : Box N cs b w) (hne : b ≠ s) : Box N cs b w' := by
  obtain ⟨v, hv⟩ := k
  exact h.after hne hv
theorem SE.chain {s : Nat} {w w1 w2 : World} (h : SE s w w1) (k : SE s w1 w2) (hs : s < w.heap.size) : SE s w w2 := by
  obtain ⟨v, hv⟩ := k
  exact h.next hs hv
/-- A row that a store at the source, or in a box behind it, can't reach. -/
structure RwF (s P : Nat) (A : Option Addr) (n : Nat) (xs : List Value) (W : World) : Prop where
  row : Row W W.heap.size 1 A n xs
  low : ∀ a, A = some a → s < a.block
  up : ∀ a, A = some a → a.block < P
theorem RwF.keep {s P : Nat} {A : Option Addr} {n : Nat} {xs : List Value} {W W' : World} (h : RwF s P A n xs W) (hs : W.heap.size ≤ W'.heap.size) (hc : ∀ p : Addr, s < p.block → p.block < P → p.block < W.heap.size → W'.cell? p = W.cell? p) : RwF s P A n xs W' := by
  refine ⟨⟨h.row.1, fun hn => ?_⟩, h.low, h.up⟩
  obtain ⟨g, o, e, hb, hc2⟩ := h.row.2 hn
  refine ⟨g, o, e, Nat.lt_of_lt_of_le hb hs, fun j u hu => ?_⟩
  have l1 := h.low _ e
  have l2 := h.up _ e
  rw [hc ⟨g, o + j, none⟩ l1 l2 hb]
  exact hc2 j u hu
theorem RwF.ext {s P : Nat} {A : Option Addr} {n : Nat} {xs : List Value} {W W' : World} (h : RwF s P A n xs W) (e : Ext W W') : RwF s P A n xs W' := h.keep e.size fun p _ _ hp => RowKit.Below.cell e hp
theorem RwF.se {s P : Nat} {A : Option Addr} {n : Nat} {xs : List Value} {W W' : World} (h : RwF s P A n xs W) (k : SE s W W') : RwF s P A n xs W' := by
  obtain ⟨v, hv⟩ := k
  refine h.keep (by simpa using hv.size) fun p h1 _ hp => cell_after hv hp (fun e => by subst e; simp at h1)
theorem RwF.put {s P b k : Nat} {v : Value} {A : Option Addr} {n : Nat} {xs : List Value} {W : World} (h : RwF s P A n xs W) (hb : P ≤ b) : RwF s P A n xs (W.setCell ⟨b, k, none⟩ v) :=
  h.keep (by simp) fun p _ h2 _ => World.cell?_setCell_other _ _ _ _ (fun e => by rw [← e] at h2; simp at h2; omega)
theorem RwF.stb {s P b : Nat} {A : Option Addr} {n : Nat} {xs : List Value} {W W' : World} (h : RwF s P A n xs W) (k : StB b W W') (hb : P ≤ b ∨ b < s) : RwF s P A n xs W' :=
  h.keep (by rw [k.size]; exact Nat.le_refl _) fun p h1 h2 _ => k.cell p (fun e => by omega)
/-- The source, behind some calls. -/
structure SSt (w W : World) (s : Nat) (A : Option Addr) (m c : Nat) (l : List Int) : Prop where
  src : ∃ i, SrcAt W s A m c l i
  se : SE s w W
  lt : s < w.heap.size
section
variable {w W : World} {s : Nat} {A : Option Addr} {m c : Nat} {l : List Int}
theorem SSt.ext {W' : World} (h : SSt w W s A m c l) (e : Ext W W') : SSt w W' s A m c l := by
  obtain ⟨i, hi⟩ := h.src
  exact ⟨⟨i, hi.ext e⟩, h.se.ext e, h.lt⟩
theorem SSt.next {W' : World} {v : Value} {j : Nat} (h : SSt w W s A m c l) (hs : SrcAt W' s A m c l j) (e : Ext (W.setCell ⟨s, 1, none⟩ v) W') : SSt w W' s A m c l := ⟨⟨j, hs⟩, h.se.next h.lt e, h.lt⟩
theorem SSt.put {b k : Nat} {v : Value} (h : SSt w W s A m c l) (hb : w.heap.size ≤ b) : SSt w (W.setCell ⟨b, k, none⟩ v) s A m c l := by
  obtain ⟨i, hi⟩ := h.src
  have := h.lt
  exact ⟨⟨i, hi.put_ (by omega)⟩, h.se.setCell (p := ⟨b, k, none⟩) hb v, h.lt⟩
theorem SrcAt.stb {W' : World} {b i : Nat} (h : SrcAt W s A m c l i) (k : StB b W W') (hb : s < b) : SrcAt W' s A m c l i := by
  obtain ⟨c0, c1, f1, row, q1, q2⟩ := h
  have hne : ∀ p : Addr, p.block ≤ s → W'.cell? p = W.cell? p := fun p hp => k.cell p (by omega)
  exact ⟨by rw [hne _ (Nat.le_refl _)]; exact c0, by rw [hne _ (Nat.le_refl _)]; exact c1, by rw [k.frozen]; exact f1, row.keep fun p hp => hne p (Nat.le_of_lt hp), q1, q2⟩
theorem SE.stb {W' : World} {b : Nat} (h : SE s w W) (k : StB b W W') (hb : w.heap.size ≤ b) : SE s w W' := by
  obtain ⟨v, hv⟩ := h
  exact ⟨v, k.ext _ hv (by simpa using hb)⟩
theorem SSt.stb {W' : World} {b : Nat} (h : SSt w W s A m c l) (k : StB b W W') (hb : w.heap.size ≤ b) : SSt w W' s A m c l := by
  obtain ⟨i, hi⟩ := h.src
  have := h.lt
  exact ⟨⟨i, SrcAt.stb hi k (by omega)⟩, SE.stb h.se k hb, h.lt⟩
theorem snext (h : SSt w W s A m c l) (n : Int) (hn : 0 < n) (hn' : n ≤ 1000000) :
    Calls Try.prog 17 #[.pointer (some ⟨s, 0, none⟩), .int .i64 n] W fun e W' => ∃ y : Int, e = .returned (.int .i64 y) ∧ 0 ≤ y ∧ y < n ∧ SE s W W' ∧ SSt w W' s A m c l := by
  obtain ⟨i, hi⟩ := h.src
  refine (next_ex s A m c l i n W hi hn hn').mono ?_
  rintro e W' ⟨y, j, rfl, h0, h1, hs, hE⟩
  exact ⟨y, rfl, h0, h1, ⟨_, hE⟩, h.next hs hE⟩
theorem splan (h : SSt w W s A m c l) :
    Calls Try.prog 18 #[.pointer (some ⟨s, 0, none⟩)] W fun e W' => ∃ (A' : Option Addr) (c' : Nat) (wl : List Int) (mi nu de ho wi : Int), e = .returned (pl A' wl.length c' mi nu de ho wi) ∧ Small wl mi nu de ho wi ∧
      RwF s W'.heap.size A' wl.length (ints wl) W' ∧ (∀ a, A' = some a → W.heap.size ≤ a.block) ∧ wl.length ≤ c' ∧ c' ≤ 9223372036854775807 ∧ SE s W W' ∧ SSt w W' s A m c l := by
  obtain ⟨i, hi⟩ := h.src
  refine (srcPlan_any s A m c l i W hi).mono ?_
  rintro e W' ⟨A', c', wl, mi, nu, de, ho, wi, rfl, hs, hown, h1, h2, hse, j, hj⟩
  have hsW : s < W.heap.size := Ext.lt hi.c0
  have hb : ∀ a, A' = some a → W.heap.size ≤ a.block ∧ a.block < W'.heap.size := by
    rintro a rfl
    rcases hown.2 with ⟨q1, _⟩ | ⟨g, cap, cur, q1, q2, q3, _⟩
    · cases q1
    · injection q1 with q1 _ _
      injection q1 with q1
      subst q1
      refine ⟨q2, ?_⟩
      rcases Nat.lt_or_ge g W'.heap.size with h | h
      · exact h
      · rw [Array.getElem?_eq_none h] at q3
        cases q3
  have hrow : Row W' W'.heap.size 1 A' wl.length (ints wl) := by
    refine ⟨by simp, fun hn => ?_⟩
    rcases hown.2 with ⟨_, q2⟩ | ⟨g, cap, cur, hv, _, hg, h3, h4, h5, h6⟩
    · omega
    · have hA : A' = some ⟨g, 0, none⟩ := by injection hv
      refine ⟨g, 0, hA, (hb _ hA).2, fun j u hu => ?_⟩
      rw [← h6] at hu
      have hj : j < wl.length * 1 := by
        have := (List.getElem?_eq_some_iff.1 hu).1
        simp at this
        omega
      rw [List.getElem?_take, if_pos (by omega)] at hu
      unfold World.cell?
      simp only [hg, Nat.zero_add]
      simpa using hu
  exact ⟨A', c', wl, mi, nu, de, ho, wi, rfl, hs, ⟨hrow, fun a ha => by have := (hb a ha).1; omega, fun a ha => (hb a ha).2⟩, fun a ha => (hb a ha).1, h1, h2, hse, ⟨j, hj⟩, h.se.chain hse h.lt, h.lt⟩
set_option maxHeartbeats 1000000 in
theorem sof2 (h : SSt w W s A m c l) (b : Nat) (x y : ByteArray) (hc : Box 0 [.string x, .string y] b W) (hb : b ≠ s) :
    Calls Try.prog 19 #[.pointer (some ⟨s, 0, none⟩), .slice (some ⟨b, 0, none⟩) 2 2] W fun e W' => ∃ z : ByteArray, e = .returned (.string z) ∧ (z = x ∨ z = y) ∧ SE s W W' ∧ SSt w W' s A m c l := by
  go_enter Try.func19, Try.ntmps19
  go_wp2_with fail
  refine (snext h 2 (by decide) (by decide)).mono ?_
  rintro e X ⟨k, rfl, h0, h1, hse, hs⟩
  have hB := hse.boxx hc hb
  have c0 := hB.cell 0 (by simp)
  have c1 := hB.cell 1 (by simp)
  simp only [List.getElem?_cons_zero, List.getElem?_cons_succ] at c0 c1
  have H := Lib.hid (And.intro hse hs)
  clear hse hs hB hc h hb
  obtain rfl | rfl : k = 0 ∨ k = 1 := by omega
  · go_wp2
    go_ret
    exact ⟨x, rfl, .inl rfl, H.out.1, H.out.2⟩
  · go_wp2
    go_ret
    exact ⟨y, rfl, .inr rfl, H.out.1, H.out.2⟩
end
end Go.Proofs.Ytlcopiepcpangaa
