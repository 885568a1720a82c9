/- RolloutHolds: the plain law. -/
import Derived.Test.YtidndcigloohoaaRollLoop
set_option linter.unusedVariables false
namespace Go.Proofs.Ytidndcigloohoaa
open Go.RowKit Go.Rg

/-- The streak that belongs to a state. -/
def sk (r : Ro) : Int := if r.s = 1 ∨ r.s = 4 then r.h else 0
def ClP (wi : Int) (r : Ro) (x : Int) : Prop := r.s = 1 ∧ x = 1 ∧ wi ≤ r.a + 1
def BtP (r r' : Ro) (x : Int) : Prop := x = 1 ∧ ((r'.s = 2 ∧ ¬ r.s = 2) ∨ (r'.s = 1 ∧ r.g < r'.g))
instance (wi : Int) (r : Ro) (x : Int) : Decidable (ClP wi r x) := by unfold ClP; infer_instance
instance (r r' : Ro) (x : Int) : Decidable (BtP r r' x) := by unfold BtP; infer_instance
def st1 (wi v : Int) (r : Ro) (x st : Int) : Int := if ClP wi r x then (if v = 2 then st + 1 else 0) else st
def st2 (r r' : Ro) (x s1 : Int) : Int := if BtP r r' x then 0 else s1
/-- What a round looks at. -/
structure HoldOK (ho wi v : Int) (r r' : Ro) (x st : Int) : Prop where
  most : BtP r r' x → ho ≤ st1 wi v r x st
  same : r'.s = 1 → r'.h = st2 r r' x (st1 wi v r x st)
  next : sk r' = if r'.s = 1 ∨ r'.s = 4 then st2 r r' x (st1 wi v r x st) else 0
theorem vd_in {l : List Int} {mi nu de ho wi t e : Int} (hP : PlanOK l mi nu de ho wi) (hw : WinOK t e) : vd l mi nu de ho wi t e = 1 ∨ vd l mi nu de ho wi t e = 2 ∨ vd l mi nu de ho wi t e = 3 := by
  unfold vd
  simp only [hP, hw, and_self, not_true, if_true, if_false]
  repeat' split
  all_goals simp
/-- Where neither the streak nor the state's count turns. -/
theorem hold_still {ho wi v : Int} {r r' : Ro} {x st : Int} (hst : st = sk r) (hc : ¬ ClP wi r x) (hb : ¬ BtP r r' x) (h : (r'.s = 1 ∨ r'.s = 4) → r'.h = sk r) : HoldOK ho wi v r r' x st := by
  have e1 : st1 wi v r x st = st := if_neg hc
  have e2 : st2 r r' x st = st := if_neg hb
  refine ⟨fun h => absurd h hb, fun h1 => ?_, ?_⟩
  · rw [e1, e2, hst]; exact h (.inl h1)
  · rw [e1, e2]
    unfold sk
    split
    · rw [hst]; exact h (by assumption)
    · rfl
theorem hold_step {l : List Int} {mi nu de ho wi : Int} {r : Ro} {x y st : Int} (hP : PlanOK l mi nu de ho wi) (hI : InvR l.length ho r) (hA : AgeR wi r) (hW : WinR r) (hst : st = sk r) :
    HoldOK ho wi (vd l mi nu de ho wi r.t r.e) r (stepR l mi nu de ho wi r x y) x st := by
  have hho := hP.ho1
  obtain ⟨i1, i2, i3, i4⟩ := hI
  by_cases hx : x = 1
  · subst hx
    rw [show stepR l mi nu de ho wi r 1 y = tickR l mi nu de ho wi r from if_pos rfl]
    by_cases hs : r.s = 1
    · by_cases ha : wi ≤ r.a + 1
      · have hc : ClP wi r 1 := ⟨hs, rfl, ha⟩
        have ha2 : wi ≤ max r.a 0 + 1 := by omega
        have hk : sk r = r.h := if_pos (.inl hs)
        rcases vd_in hP hW with hv | hv | hv
        · -- thin
          have ht : tickR l mi nu de ho wi r = ⟨r.s, r.g, 0, 0, 0, 0⟩ := by
            unfold tickR; rw [if_pos hs, if_pos ha2, if_neg (by omega), if_pos hv]
          rw [ht, hv]
          have hb : ¬ BtP r ⟨r.s, r.g, 0, 0, 0, 0⟩ 1 := fun h => by
            rcases h.2 with h | h
            · have := h.1; simp only at this; omega
            · have := h.2; simp only at this; omega
          have e1 : st1 wi 1 r 1 st = 0 := by unfold st1; rw [if_pos hc, if_neg (by omega)]
          refine ⟨fun h => absurd h hb, fun _ => ?_, ?_⟩
          · unfold st2; rw [if_neg hb, e1]
          · unfold st2; rw [if_neg hb, e1]; unfold sk; split <;> rfl
        · -- healthy
          have ht : tickR l mi nu de ho wi r = healR l.length ho ⟨r.s, r.g, r.h, 0, 0, 0⟩ := by
            unfold tickR; rw [if_pos hs, if_pos ha2, if_neg (by omega), if_neg (by omega), if_pos hv]
          rw [ht, hv]
          have e1 : st1 wi 2 r 1 st = r.h + 1 := by unfold st1; rw [if_pos hc, if_pos rfl, hst, hk]
          unfold healR
          simp only
          by_cases h1 : r.h + 1 = ho
          · rw [if_pos h1]
            by_cases h2 : r.g + 1 < l.length
            · rw [if_pos h2]
              have hb : BtP r ⟨r.s, r.g + 1, 0, 0, 0, 0⟩ 1 := ⟨rfl, .inr ⟨hs, by show r.g < r.g + 1; omega⟩⟩
              refine ⟨fun _ => by rw [e1]; omega, fun _ => ?_, ?_⟩
              · unfold st2; rw [if_pos hb]
              · unfold st2; rw [if_pos hb]; unfold sk; split <;> rfl
            · rw [if_neg h2]
              have hb : BtP r (at_ 2) 1 := ⟨rfl, .inl ⟨rfl, by omega⟩⟩
              refine ⟨fun _ => by rw [e1]; omega, fun h => ?_, ?_⟩
              · have : (2 : Int) = 1 := h
                omega
              · unfold st2; rw [if_pos hb]; unfold sk; split <;> rfl
          · rw [if_neg h1]
            have hb : ¬ BtP r ⟨r.s, r.g, r.h + 1, 0, 0, 0⟩ 1 := fun h => by
              rcases h.2 with h | h
              · have := h.1; simp only at this; omega
              · have := h.2; simp only at this; omega
            refine ⟨fun h => absurd h hb, fun _ => ?_, ?_⟩
            · unfold st2; rw [if_neg hb, e1]
            · unfold st2; rw [if_neg hb, e1]; unfold sk; split <;> rfl
        · -- failing
          have ht : tickR l mi nu de ho wi r = at_ 3 := by
            unfold tickR; rw [if_pos hs, if_pos ha2, if_pos hv]
          rw [ht, hv]
          have hb : ¬ BtP r (at_ 3) 1 := fun h => by
            rcases h.2 with h | h
            · have : (3 : Int) = 2 := h.1
              omega
            · have : (3 : Int) = 1 := h.1
              omega
          refine ⟨fun h => absurd h hb, fun h => ?_, ?_⟩
          · have : (3 : Int) = 1 := h
            omega
          · unfold sk; split
            · rename_i h; rcases h with h | h
              · have : (3 : Int) = 1 := h
                omega
              · have : (3 : Int) = 4 := h
                omega
            · rfl
      · have hc : ¬ ClP wi r 1 := fun h => ha h.2.2
        have ha2 : ¬ wi ≤ max r.a 0 + 1 := by have := hA.1; omega
        have ht : tickR l mi nu de ho wi r = ⟨r.s, r.g, r.h, r.t, r.e, max r.a 0 + 1⟩ := by
          unfold tickR; rw [if_pos hs, if_neg ha2]
        rw [ht]
        refine hold_still hst hc (fun h => ?_) (fun _ => (if_pos (.inl hs)).symm)
        rcases h.2 with h | h
        · have := h.1; simp only at this; omega
        · have := h.2; simp only at this; omega
    · have ht : tickR l mi nu de ho wi r = r := if_neg hs
      rw [ht]
      refine hold_still hst (fun h => hs h.1) (fun h => ?_) (fun h => (if_pos h).symm)
      rcases h.2 with h | h
      · exact h.2 h.1
      · have := h.2; omega
  · have hc : ¬ ClP wi r x := fun h => hx h.2.1
    have hb : ∀ r', ¬ BtP r r' x := fun r' h => hx h.1
    refine hold_still hst hc (hb _) ?_
    have hob : ∀ b, ((obsR r b).s = 1 ∨ (obsR r b).s = 4) → (obsR r b).h = sk r := fun b => by
      unfold obsR
      split
      · rename_i h; intro _; exact (if_pos (.inl h)).symm
      · intro h; exact (if_pos h).symm
    have hsame : (r.s = 1 ∨ r.s = 4) → r.h = sk r := fun h => (if_pos h).symm
    have hno : ∀ s, s = 0 ∨ s = 2 ∨ s = 3 → ((at_ s).s = 1 ∨ (at_ s).s = 4) → (at_ s).h = sk r := fun s hs h => by
      rcases h with h | h
      · have : s = 1 := h
        omega
      · have : s = 4 := h
        omega
    have hgo : r.s = 0 → ((at_ 1).s = 1 ∨ (at_ 1).s = 4) → (at_ 1).h = sk r := fun h0 _ => by
      have : sk r = 0 := if_neg (by omega)
      rw [this]; rfl
    unfold stepR
    rw [if_neg hx]
    split
    · exact hob _
    split
    · exact hob _
    split
    · split
      · unfold cmdR
        repeat' split
        all_goals first | exact hgo (by assumption) | exact hno _ (by omega) | (intro _; exact (if_pos (by omega)).symm)
      · exact hsame
    · exact hsame
end Go.Proofs.Ytidndcigloohoaa
