/- Rollouts: what a law's loop keeps. -/
import Derived.Test.YtidndcigloohoaaRoll9
set_option linter.unusedVariables false
namespace Go.Proofs.Ytidndcigloohoaa
open Go.RowKit Go.Rg
/-- The state of a law: the plan lies at P, the rollout at R; their rows and the inputs' row below P. -/
structure St (w wr : World) (P : Nat) (A : Option Addr) (wl : List Int) (c : Nat) (mi nu de ho wi : Int) (I : Option Addr) (il : List I2) (R : Nat) (r : Ro) : Prop where
  e : Ext w wr
  b1 : Box P (pcells A wl.length c mi nu de ho wi) P wr
  b2 : Box P (rcells r) R wr
  r : Row wr P 1 A wl.length (ints wl)
  ir : Row wr P 2 I il.length (icells il)
theorem St.ext {w wr wr' : World} {P : Nat} {A : Option Addr} {wl : List Int} {c : Nat} {mi nu de ho wi : Int} {I : Option Addr} {il : List I2} {R : Nat} {r : Ro} (h : St w wr P A wl c mi nu de ho wi I il R r) (e : Ext wr wr') : St w wr' P A wl c mi nu de ho wi I il R r :=
  ⟨h.e.trans e, h.b1.ext e, h.b2.ext e, h.r.below (e.mono (Nat.le_of_lt h.b1.lt)), h.ir.below (e.mono (Nat.le_of_lt h.b1.lt))⟩
theorem St.r_ {w wr : World} {P : Nat} {A : Option Addr} {wl : List Int} {c : Nat} {mi nu de ho wi : Int} {I : Option Addr} {il : List I2} {R : Nat} {r : Ro} (h : St w wr P A wl c mi nu de ho wi I il R r) : Row wr wr.heap.size 1 A wl.length (ints wl) := h.r.more (Nat.le_of_lt h.b1.lt)
theorem St.ir_ {w wr : World} {P : Nat} {A : Option Addr} {wl : List Int} {c : Nat} {mi nu de ho wi : Int} {I : Option Addr} {il : List I2} {R : Nat} {r : Ro} (h : St w wr P A wl c mi nu de ho wi I il R r) : Row wr wr.heap.size 2 I il.length (icells il) := h.ir.more (Nat.le_of_lt h.b1.lt)
theorem cell_off {w : World} {b o c k : Nat} {u v : Value} (h : w.cell? ⟨b, o, none⟩ = some u) (hne : c ≠ b) : (w.setCell ⟨c, k, none⟩ v).cell? ⟨b, o, none⟩ = some u := by
  rw [World.cell?_setCell_other _ _ _ _ (fun e => hne (by injection e))]; exact h
theorem Box.rebase {N M b : Nat} {cs : List Value} {w : World} (h : Box N cs b w) (hM : M ≤ b) : Box M cs b w := ⟨hM, h.lt, h.cell, h.free⟩
/-- The age is that of a window that is open. -/
def AgeR (wi : Int) (r : Ro) : Prop := 0 ≤ r.a ∧ r.a ≤ wi
theorem age_step {l : List Int} {mi nu de ho wi : Int} {r : Ro} (hw : 1 ≤ wi) (k x : Int) (h : AgeR wi r) : AgeR wi (stepR l mi nu de ho wi r k x) := by
  have h0 : ∀ s, AgeR wi (at_ s) := fun s => ⟨by show (0 : Int) ≤ 0; omega, by show (0 : Int) ≤ wi; omega⟩
  have hz : ∀ s g h t e, AgeR wi ⟨s, g, h, t, e, 0⟩ := fun s g h t e => ⟨by show (0 : Int) ≤ 0; omega, by show (0 : Int) ≤ wi; omega⟩
  unfold stepR
  split
  · unfold tickR
    split
    · split
      · split
        · exact h0 _
        · split
          · exact hz ..
          · split
            · unfold healR
              split
              · split
                · exact hz ..
                · exact h0 _
              · exact hz ..
            · exact hz ..
      · rename_i hq
        exact ⟨by show 0 ≤ max r.a 0 + 1; omega, by show max r.a 0 + 1 ≤ wi; omega⟩
    · exact h
  split
  · unfold obsR; split <;> exact h
  split
  · unfold obsR; split <;> exact h
  split
  · split
    · unfold cmdR
      repeat' split
      all_goals first | exact h0 _ | exact h
    · exact h
  · exact h
theorem age_run {l : List Int} {mi nu de ho wi : Int} (hw : 1 ≤ wi) (il : List I2) : ∀ k, AgeR wi (runR l mi nu de ho wi il k)
  | 0 => ⟨by show (0 : Int) ≤ 0; omega, by show (0 : Int) ≤ wi; omega⟩
  | k + 1 => by
    rcases h : il[k]? with _ | ⟨x, y⟩
    · have : runR l mi nu de ho wi il (k + 1) = runR l mi nu de ho wi il k := by unfold runR; rw [List.take_add_one, h]; simp
      rw [this]; exact age_run hw il k
    · rw [runR_succ h]; exact age_step hw x y (age_run hw il k)
/-- The window's numbers are counters. -/
def WinR (r : Ro) : Prop := WinOK r.t r.e
theorem cap2_rg (x y : Int) : 0 ≤ cap2 x y ∧ cap2 x y ≤ 1000000000 := by
  have := addTo_bd 1000000000 [x, y] 2; unfold cap2; omega
theorem win_step {l : List Int} {mi nu de ho wi : Int} {r : Ro} (k x : Int) (h : WinR r) : WinR (stepR l mi nu de ho wi r k x) := by
  have hz : ∀ s g h a, WinR ⟨s, g, h, 0, 0, a⟩ := fun s g h a => ⟨by show (0 : Int) ≤ 0; omega, by show (0 : Int) ≤ 1000000000; omega, by show (0 : Int) ≤ 0; omega, by show (0 : Int) ≤ 1000000000; omega⟩
  have h0 : ∀ s, WinR (at_ s) := fun s => hz s 0 0 0
  have hob : ∀ b, WinR (obsR r b) := fun b => by
    unfold obsR
    split
    · exact ⟨(cap2_rg _ _).1, (cap2_rg _ _).2, (cap2_rg _ _).1, (cap2_rg _ _).2⟩
    · exact h
  unfold stepR
  split
  · unfold tickR
    split
    · split
      · split
        · exact h0 _
        · split
          · exact hz ..
          · split
            · unfold healR
              split
              · split
                · exact hz ..
                · exact h0 _
              · exact hz ..
            · exact hz ..
      · exact h
    · exact h
  split
  · exact hob _
  split
  · exact hob _
  split
  · split
    · unfold cmdR
      repeat' split
      all_goals first | exact h0 _ | exact h
    · exact h
  · exact h
theorem win_run {l : List Int} {mi nu de ho wi : Int} (il : List I2) : ∀ k, WinR (runR l mi nu de ho wi il k)
  | 0 => ⟨by show (0 : Int) ≤ 0; omega, by show (0 : Int) ≤ 1000000000; omega, by show (0 : Int) ≤ 0; omega, by show (0 : Int) ≤ 1000000000; omega⟩
  | k + 1 => by
    rcases h : il[k]? with _ | ⟨x, y⟩
    · have : runR l mi nu de ho wi il (k + 1) = runR l mi nu de ho wi il k := by unfold runR; rw [List.take_add_one, h]; simp
      rw [this]; exact win_run il k
    · rw [runR_succ h]; exact win_step x y (win_run il k)
end Go.Proofs.Ytidndcigloohoaa
