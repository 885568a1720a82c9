/- Queues: copied. -/
import Derived.Test.YtphbmibgnnobcaaQueue1
set_option linter.unusedVariables false
namespace Go.Proofs.Ytphbmibgnnobcaa
open Go.RowKit Go.Rg

theorem own_plus {w w2 : World} {x : Array Obj × Nat} {base n size : Nat} {e : TypeId} {v : Value} {xs : List Value} (h : (w.plus x).ownsRow base e size v n xs) (hs : w2.heap.size = w.heap.size) (hb : w.heap.size ≤ base) : (w2.plus x).ownsRow base e size v n xs := by
  refine ⟨h.1, ?_⟩
  rcases h.2 with h1 | ⟨g, cap, cur, hv, hbg, hg, h2⟩
  · exact .inl h1
  · refine .inr ⟨g, cap, cur, hv, hbg, ?_, h2⟩
    unfold World.plus at hg ⊢
    simp only at hg ⊢
    rw [Array.getElem?_append_right (by omega)] at hg
    rw [Array.getElem?_append_right (by omega), hs]
    exact hg
theorem own_lower_ {w : World} {base base' n size : Nat} {e : TypeId} {v : Value} {xs : List Value} (h : w.ownsRow base e size v n xs) (hb : base' ≤ base) : w.ownsRow base' e size v n xs := by
  refine ⟨h.1, ?_⟩
  rcases h.2 with h1 | ⟨g, cap, cur, hv, hbg, r⟩
  · exact .inl h1
  · exact .inr ⟨g, cap, cur, hv, by omega, r⟩
theorem own_nil {w : World} {base n : Nat} {e : TypeId} {A : Option Addr} {c : Nat} {xs : List Value} (h : w.ownsRow base e 1 (.slice A n c) n xs) : A = none → n = 0 ∧ c = 0 := by
  intro hA
  subst hA
  rcases h.2 with ⟨h1, h2⟩ | ⟨g, cap, cur, hv, _⟩
  · injection h1 with _ _ h3
    exact ⟨h2, h3⟩
  · injection hv with h3
    cases h3

set_option maxHeartbeats 1000000 in
theorem copied_any (k : Int) (A : Option Addr) (n c : Nat) (l : List Int) (w : World) (hr : Row w w.heap.size 1 A n (bytes l)) (hA : A = none → n = 0 ∧ c = 0) (hn : n ≤ 140737488355328) :
    Calls Try.prog 49 #[qu k A n c] w fun e w' => ∃ A' c', e = .returned (qu k A' n c') ∧ w'.ownsRow w.heap.size 5 1 (.slice A' n c') n (bytes l) ∧ Ext w w' := by
  have HA := Lib.hid hA
  clear hA
  go_enter Try.func49, Try.ntmps49
  go_wp2_with fail
  refine (clone_any A n c l _ (hr.lift (by repeat (first | exact Ext.refl _ | assumption | apply Ext.plus_ | apply Ext.alloc | apply Ext.drew))) HA.out hn).mono ?_
  rintro e w' ⟨v, rfl, hown, hE⟩
  obtain ⟨x, rfl⟩ := hE.plus
  obtain ⟨A', c', rfl, _, _⟩ := own_form hown
  have HO := Lib.hid hown
  clear hown hE
  go_wp2
  refine bodyPost_ret (v := (qu k A' n c')) (by simp [results, Try.results49, go_sem]) rfl ?_
  refine ⟨A', c', rfl, own_lower_ (own_plus HO.out ?_ ?_) ?_, (by repeat (first | exact Ext.refl _ | assumption | apply Ext.plus_ | apply Ext.alloc | apply Ext.drew))⟩
  all_goals simp
  all_goals omega
end Go.Proofs.Ytphbmibgnnobcaa
