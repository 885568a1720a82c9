/- Sources: what the laws of other chapters need (a source's methods that make no plan). -/
import Derived.Test.YtphbmibgnnobcaaSource
import Derived.Test.YtphbmibgnnobcaaBoxes
import Derived.Test.YtphbmibgnnobcaaQueue4
set_option linter.unusedVariables false
namespace Go.Proofs.Ytphbmibgnnobcaa
open Go.RowKit Go.Rg

/-- A new source. -/
theorem src_at {w W : World} {s : Nat} {B : Option Addr} {k d : Nat} {ll : List Int} {T : TypeId} (hB : Row w w.heap.size 1 B k (ints ll)) (hE : Ext w W) (hs : s = W.heap.size) (hk : k ≤ 9223372036854775807) : SrcAt (W.alloc (.cells #[.slice B k d, .int .i64 0] T)) s B k d ll 0 := by
  subst hs
  have hB := hB.lift hE
  exact ⟨by rw [World.cell?_alloc_at _ _ _ _ rfl]; rfl, by rw [World.cell?_alloc_at _ _ _ _ rfl]; rfl, World.frozen?_alloc_at _ _ _ _ rfl, hB.keep fun p hp => World.cell?_alloc_lt W _ p hp, Nat.zero_le _, hk⟩

theorem own_lower {w : World} {base base' n size : Nat} {e : TypeId} {v : Value} {xs : List Value} (h : w.ownsRow base e size v n xs) (hb : base' ≤ base) : w.ownsRow base' e size v n xs := by
  refine ⟨h.1, ?_⟩
  rcases h.2 with h1 | ⟨g, cap, cur, hv, hbg, r⟩
  · exact .inl h1
  · exact .inr ⟨g, cap, cur, hv, by omega, r⟩

theorem _root_.Go.Rg.Ext.se {w W W' : World} {s : Nat} (h : Ext w W) (k : SE s W W') (hs : w.heap.size ≤ s) : Ext w W' := by
  obtain ⟨v, hv⟩ := k
  exact (h.put (k := 1) (v := v) hs).trans hv
theorem SE.chain {s : Nat} {w w1 w2 : World} (h : SE s w w1) (k : SE s w1 w2) (hs : s < w.heap.size) : SE s w w2 := by
  obtain ⟨v, hv⟩ := k
  exact h.next hs hv
theorem SE.box {s N b : Nat} {cs : List Value} {w w' : World} (h : Box N cs b w) (k : SE s w w') (hne : b ≠ s) : Box N cs b w' := by
  obtain ⟨v, hv⟩ := k
  exact h.after hne hv
theorem SE.cell {s : Nat} {w w' : World} {p : Addr} {u : Value} (k : SE s w w') (h : w.cell? p = some u) (hne : p ≠ ⟨s, 1, none⟩) : w'.cell? p = some u := by
  obtain ⟨v, hv⟩ := k
  rw [cell_after hv (Ext.lt h) hne]; exact h
theorem SE.row {s B n size : Nat} {A : Option Addr} {xs : List Value} {w w' : World} (k : SE s w w') (h : Row w B size A n xs) (hB : B ≤ s) (hs : s < w.heap.size) : Row w' B size A n xs := by
  obtain ⟨v, hv⟩ := k
  exact h.keep fun p hp => cell_after hv (by omega) (fun e => by subst e; simp at hp; omega)

set_option maxHeartbeats 1000000 in
theorem cut_any (A : Option Addr) (n c : Nat) (m : Nat) (w : World) (hn : n ≤ 9223372036854775807) (hc : n ≤ c) (hm : m ≤ 1000) :
    Calls Try.prog 13 #[.slice A n c, .int .i64 (m : Nat)] w fun e w' => e = .returned (.slice A (min n m) c) ∧ w = w' := by
  by_cases h : n ≤ m
  · rw [Nat.min_eq_left h]
    have h1 : decide ((m : Int) < (n : Int)) = false := by simp; omega
    go_enter Try.func13, Try.ntmps13
    go_wp2
    go_ret
    exact ⟨rfl, rfl⟩
  · rw [Nat.min_eq_right (by omega)]
    have h1 : decide ((m : Int) < (n : Int)) = true := by simp; omega
    have h2 : m ≤ c := by omega
    go_enter Try.func13, Try.ntmps13
    go_wp2
    go_ret
    exact ⟨rfl, rfl⟩
set_option maxHeartbeats 1000000 in
theorem left_any (s : Nat) (A : Option Addr) (m c : Nat) (l : List Int) (i : Nat) (w : World) (h : SrcAt w s A m c l i) :
    Calls Try.prog 14 #[.pointer (some ⟨s, 0, none⟩)] w fun e w' => e = .returned (.bool (decide (i < m))) ∧ Ext w w' := by
  obtain ⟨c0, c1, f1, row, hi, hm⟩ := h
  go_enter Try.func14, Try.ntmps14
  go_wp2_with fail
  go_quiet (fail)
  go_wp2
  go_ret
  exact ⟨rfl, (Ext.refl _).drewN _⟩

theorem SrcAt.up {w : World} {s : Nat} {A : Option Addr} {m c : Nat} {l : List Int} {i : Nat} (h : SrcAt w s A m c l i) (o : Obj) : SrcAt (w.alloc o) s A m c l i := h.ext ((Ext.refl w).alloc o)
theorem SrcAt.drew_ {w : World} {s : Nat} {A : Option Addr} {m c : Nat} {l : List Int} {i : Nat} (h : SrcAt w s A m c l i) : SrcAt w.drew s A m c l i := h.ext (Ext.refl w).drew
theorem SrcAt.drewN_ {w : World} {s k : Nat} {A : Option Addr} {m c : Nat} {l : List Int} {i : Nat} (h : SrcAt w s A m c l i) : SrcAt (w.drewN k) s A m c l i := h.ext ((Ext.refl w).drewN k)
theorem SrcAt.put {w : World} {s b k : Nat} {v : Value} {A : Option Addr} {m c : Nat} {l : List Int} {i : Nat} (h : SrcAt w s A m c l i) (hb : s < b) : SrcAt (w.setCell ⟨b, k, none⟩ v) s A m c l i := by
  obtain ⟨c0, c1, f1, row, q1, q2⟩ := h
  have hne : ∀ p : Addr, p.block ≤ s → (w.setCell ⟨b, k, none⟩ v).cell? p = w.cell? p := fun p hp => World.cell?_setCell_other _ _ _ _ (fun e => by rw [← e] at hp; simp at hp; omega)
  exact ⟨by rw [hne _ (Nat.le_refl _)]; exact c0, by rw [hne _ (Nat.le_refl _)]; exact c1, by simpa using f1, row.keep fun p hp => hne p (Nat.le_of_lt hp), q1, q2⟩
theorem SE.up {w w1 : World} {s : Nat} (h : SE s w w1) (o : Obj) : SE s w (w1.alloc o) := h.ext ((Ext.refl w1).alloc o)
theorem SE.drew_ {w w1 : World} {s : Nat} (h : SE s w w1) : SE s w w1.drew := h.ext (Ext.refl w1).drew
theorem SE.drewN_ {w w1 : World} {s k : Nat} (h : SE s w w1) : SE s w (w1.drewN k) := h.ext ((Ext.refl w1).drewN k)
theorem SE.put {w w1 : World} {s b k : Nat} {v : Value} (h : SE s w w1) (hb : w.heap.size ≤ b) : SE s w (w1.setCell ⟨b, k, none⟩ v) := h.setCell (p := ⟨b, k, none⟩) hb v
theorem nxi_up {l : List Int} {m i : Nat} (hl : l.length = m) : i < m → i < nxi l i := fun h => by unfold nxi; rw [if_pos (by omega)]; omega
theorem nxi_le (l : List Int) (i : Nat) : i ≤ nxi l i := by unfold nxi; split <;> omega


theorem own_rows {w : World} {base n size : Nat} {e : TypeId} {A : Option Addr} {c : Nat} {xs : List Value} (hs : 0 < size) (h : w.ownsRow base e size (.slice A n c) n xs) : Row w w.heap.size size A n xs := by
  refine ⟨h.1, fun hn => ?_⟩
  rcases h.2 with ⟨_, h2⟩ | ⟨g, cap, cur, hv, _, hg, h3, h4, h5, h6⟩
  · omega
  · have hA : A = some ⟨g, 0, none⟩ := by injection hv
    have hlt : g < w.heap.size := by
      rcases Nat.lt_or_ge g w.heap.size with h | h
      · exact h
      · rw [Array.getElem?_eq_none h] at hg; cases hg
    refine ⟨g, 0, hA, hlt, fun j u hu => ?_⟩
    rw [← h6] at hu
    have hj : j < n * size := by
      have := (List.getElem?_eq_some_iff.1 hu).1
      simp at this
      omega
    rw [List.getElem?_take, if_pos (by omega)] at hu
    unfold World.cell?
    simp only [hg, Nat.zero_add]
    simpa using hu
theorem own_forms {w : World} {base n size : Nat} {e : TypeId} {v : Value} {xs : List Value} (h : w.ownsRow base e size v n xs) : ∃ A c, v = .slice A n c ∧ n ≤ c ∧ c ≤ 9223372036854775807 := by
  rcases h.2 with ⟨h1, h2⟩ | ⟨g, cap, cur, hv, _, _, h3, h4, _⟩
  · exact ⟨none, 0, by rw [h1, h2], by omega, by omega⟩
  · exact ⟨_, cap, hv, h3, h4⟩
theorem SE.own {s base n size : Nat} {e : TypeId} {v : Value} {xs : List Value} {w w' : World} (k : SE s w w') (h : w.ownsRow base e size v n xs) (hb : s < base) : w'.ownsRow base e size v n xs := by
  obtain ⟨u, hu⟩ := k
  exact own_ext (own_setCell h (p := ⟨s, 1, none⟩) hb u) hu

end Go.Proofs.Ytphbmibgnnobcaa
