/- Predicates of the laws' regions. -/
import Derived.Test.YtbdahlfakinagaaDoorDgT
import Derived.Test.YtbdahlfakinagaaDoorOn
set_option linter.unusedVariables false

namespace Go.Proofs.YtbdahlfakinagaaDoor
open Go.RowKit Go.Rg
variable {d : Option Tmp} {x y : Operand} {pos : String} {after : Array Edge} {guard : Option (Nat × Bool)} {F : Act} {W : World}
theorem m_p {ty : TypeId} {v0 : Value} {T : Value → World → Prop} (hx : F.eval x = v0) (hp : T v0 W) :
    comes Tryd.prog { dst := d, op := .move x, type := ty, pos := pos, after := after, guard := guard } F W (fun v w' => Ext W w' ∧ T v w') := by
  obtain ⟨u, hu⟩ : ∃ u, u = F.eval x := ⟨_, rfl⟩
  simp only [comes, execOp]
  rw [hx]
  exact ⟨Ext.refl _, hp⟩
/-- A slice of the bytes l. -/
def isBS (l : List Int) : Value → World → Prop := fun v w => BS w v l
theorem isBS.st (l : List Int) : Stable (isBS l) := fun _ _ _ e h => BS.lift h e
/-- A digest behind the bytes a. -/
def isDgP (a : List Int) : Value → World → Prop := fun v w => IsDg 0 w v a
theorem isDgP.st (a : List Int) : Stable (isDgP a) := fun _ _ _ e h => IsDg.ext h e
theorem of_one (w : World) (hg : Glob w) (hg2 : 2 ≤ w.heap.size) (b : Nat) (v : Value) (l : List Int) (hc : Cells w b [v]) (hv : BS w v l) (hb : By l) (hl : l.length ≤ 549755813888) :
    Calls Tryd.prog 10 #[.slice (some ⟨b, 0, none⟩) 1 1] w fun e w' => ∃ u, e = .returned u ∧ BS w' u (shaOf l) ∧ Ext w w' := by
  refine (of_core (some ⟨b, 0, none⟩) 1 1 [v] [l] w hg hg2 (Row.ofCells hc) ⟨rfl, fun j u l' hj hl => ?_⟩ (fun l' hl' => by simp at hl'; rw [hl']; exact hb) (by decide) (by simpa using hl)).mono ?_
  · rcases j with _ | j
    · injection hj with hj
      injection hl with hl
      subst hj hl
      exact hv
    · cases hj
  · rintro e w' ⟨u, rfl, ho, hE⟩
    have e1 : [l].flatten = l := by simp
    rw [e1] at ho
    exact ⟨u, rfl, BS.of_own ho, hE⟩
theorem of_two (w : World) (hg : Glob w) (hg2 : 2 ≤ w.heap.size) (b : Nat) (v1 v2 : Value) (l1 l2 : List Int) (hc : Cells w b [v1, v2]) (hv1 : BS w v1 l1) (hv2 : BS w v2 l2) (hb1 : By l1) (hb2 : By l2) (hl : l1.length + l2.length ≤ 549755813888) :
    Calls Tryd.prog 10 #[.slice (some ⟨b, 0, none⟩) 2 2] w fun e w' => ∃ u, e = .returned u ∧ BS w' u (shaOf (l1 ++ l2)) ∧ Ext w w' := by
  refine (of_core (some ⟨b, 0, none⟩) 2 2 [v1, v2] [l1, l2] w hg hg2 (Row.ofCells hc) ⟨rfl, fun j u l' hj hl => ?_⟩ (fun l' hl' => by simp at hl'; rcases hl' with rfl | rfl <;> assumption) (by decide) (by simpa using hl)).mono ?_
  · rcases j with _ | _ | j
    · injection hj with hj
      injection hl with hl
      subst hj hl
      exact hv1
    · injection hj with hj
      injection hl with hl
      subst hj hl
      exact hv2
    · cases hj
  · rintro e w' ⟨u, rfl, ho, hE⟩
    have e1 : [l1, l2].flatten = l1 ++ l2 := by simp
    rw [e1] at ho
    exact ⟨u, rfl, BS.of_own ho, hE⟩
theorem of_none (w : World) (hg : Glob w) (hg2 : 2 ≤ w.heap.size) : Calls Tryd.prog 10 #[.slice none 0 0] w fun e w' => ∃ u, e = .returned u ∧ BS w' u (shaOf []) ∧ Ext w w' := by
  refine (of_core none 0 0 [] [] w hg hg2 ⟨rfl, fun h => absurd h (by decide)⟩ ⟨rfl, fun j u l' hj hl => by cases hj⟩ (fun l' hl' => by cases hl') (by decide) (by simp)).mono ?_
  rintro e w' ⟨u, rfl, ho, hE⟩
  exact ⟨u, rfl, BS.of_own ho, hE⟩
theorem by_sha (a : List Int) : By (shaOf a) := fun x hx => by
  unfold shaOf outB at hx
  obtain ⟨q, _, hq⟩ := List.mem_flatMap.1 hx
  simp [outW] at hq
  rcases hq with rfl | rfl | rfl | rfl <;> omega
theorem sha_len (a : List Int) : (shaOf a).length = 32 := by rw [shaOf, outB_len, stOf_len]
theorem text_bs (v : Value) (l : List Int) (w : World) (hB : BS w v l) (hb : By l) (hl : l.length ≤ 549755813888) : Calls Tryd.prog 12 #[v] w fun e w' => e = .returned (.string (strOfNums (hexI l))) ∧ Ext w w' := by
  obtain ⟨A, n, c, rfl, h⟩ := hB
  exact text_core A n c l w ⟨A, n, c, rfl, h⟩ hb hl
theorem refText_bs (v : Value) (l : List Int) (w : World) (hB : BS w v l) (hb : By l) (hl : l.length ≤ 549755813888) : Calls Tryd.prog 13 #[v] w fun e w' => e = .returned (.string (strOfNums (hexI l))) ∧ Ext w w' := by
  obtain ⟨A, n, c, rfl, h⟩ := hB
  exact refText_core A n c l w ⟨A, n, c, rfl, h⟩ hb hl
theorem refOf_bs (v : Value) (l : List Int) (w : World) (hB : BS w v l) (hb : By l) (hl : l.length ≤ 549755813888) : Calls Tryd.prog 11 #[v] w fun e w' => ∃ u, e = .returned u ∧ BS w' u (shaOf l) ∧ Ext w w' := by
  obtain ⟨A, n, c, rfl, h⟩ := hB
  refine (refOf_core A n c l w ⟨A, n, c, rfl, h⟩ hb hl).mono ?_
  rintro e w' ⟨u, rfl, ho, hE⟩
  exact ⟨u, rfl, BS.of_own ho, hE⟩
theorem write_bs (v u : Value) (a bl : List Int) (w : World) (hg : Glob w) (hg2 : 2 ≤ w.heap.size) (hv : IsDg 0 w v a) (hB : BS w u bl) (ha : By a) (hb : By bl) (hn : a.length + bl.length ≤ 549755813888) :
    Calls Tryd.prog 16 #[v, u] w fun e w' => ∃ v', e = .returned v' ∧ IsDg 0 w' v' (a ++ bl) ∧ Ext w w' := by
  obtain ⟨A, n, c, rfl, h⟩ := hB
  refine (write_dg 0 v a A n c bl w hg hg2 hv ⟨A, n, c, rfl, h⟩ ha hb hn).mono ?_
  rintro e w' ⟨v', rfl, h, hE⟩
  exact ⟨v', rfl, h.lower (Nat.zero_le _), hE⟩
theorem sum_bs (v : Value) (a : List Int) (w : World) (hg : Glob w) (hg2 : 2 ≤ w.heap.size) (hv : IsDg 0 w v a) (ha : By a) (hn : a.length ≤ 549755813888) :
    Calls Tryd.prog 17 #[v] w fun e w' => ∃ u, e = .returned u ∧ BS w' u (shaOf a) ∧ Ext w w' := by
  refine (sum_dg 0 v a w hg hg2 hv ha hn).mono ?_
  rintro e w' ⟨u, rfl, ho, hE⟩
  exact ⟨u, rfl, BS.of_own ho, hE⟩
theorem short_any (A : Option Addr) (n c m : Nat) (w : World) (hn : n ≤ c) (hc : c ≤ 9223372036854775807) (hm : m ≤ 1000) :
    Calls Tryd.prog 8 #[.slice A n c, .int .i64 (m : Nat)] w fun e w' => e = .returned (.slice A (min n m) c) ∧ w = w' := by
  rcases Nat.lt_or_ge m n with h | h
  · rw [show min n m = m by omega]
    have h1 : (m : Int) ≤ (c : Int) := by omega
    have h2 : (m : Int) < (n : Int) := by omega
    go_enter Tryd.func8, Tryd.ntmps8
    go_wp2
    go_ret
    exact ⟨rfl, rfl⟩
  · rw [show min n m = n by omega]
    go_enter Tryd.func8, Tryd.ntmps8
    go_wp2
    go_ret
    exact ⟨rfl, rfl⟩
end Go.Proofs.YtbdahlfakinagaaDoor
