/- A region in its written order, each operation of its head taken by a predicate. -/
import Derived.Test.YtbdahlfakinagaaDoorRg
set_option linter.unusedVariables false
namespace Go.Rg
open Go.RowKit
variable {P : Program}

/-- Every edge goes back. -/
def backB : List Oper → Nat → Bool
  | [], _ => true
  | o :: l, k => o.after.toList.all (fun e => decide (e.on < k)) && backB l (k + 1)
theorem backB_get (l : List Oper) : ∀ (k : Nat), backB l k = true → ∀ (i : Nat) (o : Oper), l[i]? = some o → ∀ e ∈ o.after, e.on < k + i := by
  induction l with
  | nil =>
    intro k _ i o h
    simp at h
  | cons q l ih =>
    intro k h i o ho e he
    rw [backB, Bool.and_eq_true] at h
    cases i with
    | zero =>
      rw [List.getElem?_cons_zero] at ho
      injection ho with ho
      subst ho
      have := List.all_eq_true.1 h.1 e (Array.mem_toList_iff.2 he)
      simpa using this
    | succ i =>
      rw [List.getElem?_cons_succ] at ho
      have := ih (k + 1) h.2 i o ho e he
      omega
theorem listOf_any {Q : Exit → Act → World → Prop} {l : List Oper} (hb : backB l 0 = true) : ∀ (f k : Nat) (L : Array Bool) (a : Act) (w : World), f + k = l.length → L.size = l.length → (∀ j, j < k → L.getD j false = true) → (∀ j, k ≤ j → j < l.length → L.getD j true = false) →
    wpAny P .any l.toArray Q f L a w → wpList P l.toArray Q (l.drop k) a w
  | 0, k, L, a, w, hf, hs, h1, h2, h => by
    rw [List.drop_of_length_le (by omega)]
    exact h.2
  | f + 1, k, L, a, w, hf, hs, h1, h2, h => by
    have hk : k < l.length := by omega
    have ho : l[k]? = some l[k] := List.getElem?_eq_getElem hk
    have hr : k ∈ Region.ready .any l.toArray L := by
      rw [mem_ready]
      refine ⟨h2 k (Nat.le_refl _) hk, l[k], by simp, fun e he _ => h1 _ ?_⟩
      have := backB_get l 0 hb k _ ho e he
      omega
    have hop := h.2 k hr
    have hnext : ∀ a' w', wpAny P .any l.toArray Q f (L.setIfInBounds k true) a' w' → wpList P l.toArray Q (l.drop (k + 1)) a' w' := fun a' w' h' => by
      refine listOf_any hb f (k + 1) _ a' w' (by omega) (by simpa using hs) (fun j hj => ?_) (fun j hj hjl => ?_) h'
      · by_cases e : j = k
        · subst e
          simp [Array.getD, hs, hk]
        · have := h1 j (by omega)
          rw [Array.getD_eq_getD_getElem?] at this ⊢
          rw [Array.getElem?_setIfInBounds_ne (by omega)]
          exact this
      · have := h2 j (by omega) hjl
        rw [Array.getD_eq_getD_getElem?] at this ⊢
        rw [Array.getElem?_setIfInBounds_ne (by omega)]
        exact this
    rw [List.drop_eq_getElem_cons hk]
    unfold wpOp at hop
    have ho' : l.toArray[k]? = some l[k] := by simp
    rw [ho'] at hop
    simp only at hop
    unfold wpList
    by_cases hw : Region.wanted l[k] (yielded l.toArray a.tmps) = true
    · rw [if_pos hw] at hop ⊢
      rcases hop with hop | hop
      · exact .inl (Oper.wp_mono hnext hop)
      · exact .inr hop
    · rw [if_neg hw] at hop ⊢
      exact hnext _ _ hop
theorem rgOps_of_x0 {head ops : _} {Ts : List (Value → World → Prop)} {a : Act} {w : World} : ∀ {l : List Oper} {R : List (Value → World → Prop)}, xOps P ops head Ts a w l R → rgOps P ops head Ext Ts a w l R
  | [], _, _ => by simp [rgOps]
  | o :: l, [], h => h.elim
  | o :: l, T :: R, h => ⟨fun vs w1 hE hd => by
      obtain ⟨x, hx⟩ := hE.plus
      subst hx
      exact h.1 vs x hd, rgOps_of_x0 h.2⟩
/-- ████ A region in its written order: n operations at its head by their predicates, the world goes on by new blocks alone. -/
theorem wp_region_seq {id : Nat} {Q : Exit → Act → World → Prop} {a : Act} {w : World} {l : List Oper} (n : Nat) (Ts : List (Value → World → Prop))
    (hB : rgB l.toArray n = true) (hb : backB l 0 = true) (hlen : Ts.length = n)
    (hops : xOps P l.toArray (l.take n) Ts a w (l.take n) Ts) (hst : stables Ts)
    (hfin : ∀ vs x, facts vs (w.plus x) 0 Ts → wpList P l.toArray Q (l.drop n) (putAll vs (l.take n) 0 a) (w.plus x)) : (Code.region id l.toArray false).wp P Q a w := by
  have hok := rgOk_of hB
  refine wp_region_lit ?_
  have inv0 : HeadInv .any l.toArray n (Array.replicate l.toArray.size false) :=
    ⟨by simp, fun j oj _ hl => (by rw [getD_replicate_false] at hl; cases hl), fun t _ ht => getD_in (by simpa using ht) (getD_replicate_false _ _)⟩
  have := rg_main (Q := Q) (E := Ext) hok Ext.refl (fun _ _ _ => Ext.trans) (stables_mem hst) hlen (rgOps_of_x0 hops) (fun vs w1 hE hf => by
    obtain ⟨x, hx⟩ := hE.plus
    subst hx
    exact hfin vs x hf) n (Array.replicate l.toArray.size false) (fun _ => undef) a w (left_all _ _)
    ⟨inv0, Ext.refl _, (putL_none _ _ _ 0 a (fun j => getD_replicate_false _ _)).symm, fun i T _ hl _ => by rw [getD_replicate_false] at hl; cases hl⟩
  have hn : n ≤ l.length := by simpa using hok.le
  have h2 := listOf_any hb (n + (l.toArray.size - n)) 0 _ a w (by simp; omega) (by simp) (fun j hj => absurd hj (by omega)) (fun j _ hj => by
    rw [Array.getD_eq_getD_getElem?, Array.getElem?_replicate]
    simp [hj]) this
  rwa [List.drop_zero] at h2
end Go.Rg
