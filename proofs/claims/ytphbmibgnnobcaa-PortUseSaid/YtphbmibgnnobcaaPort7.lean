/- Ports: validity. -/
import Derived.Test.YtphbmibgnnobcaaPort6
import Derived.Test.YtphbmibgnnobcaaSrcBytes
set_option linter.unusedVariables false
namespace Go.Proofs.Ytphbmibgnnobcaa
open Go.RowKit Go.Rg

set_option maxHeartbeats 2000000 in
theorem validPort_any (id cl ic : Int) (A : Option Addr) (n c : Nat) (oc : Int) (B : Option Addr) (m d : Nat) (bu : Int) (en cg : Bool) (w : World) (hn : n ≤ 9223372036854775807) (hm : m ≤ 9223372036854775807)
    (h1 : QOK ic n) (h2 : QOK oc m) (h3 : 0 ≤ bu) (h4 : bu ≤ 1000000) (h5 : bu = 0 ∨ m = 0) :
    Calls Try.prog 20 #[pv id cl ic A n c oc B m d bu en cg] w fun e w' => e = .returned (.bool true) ∧ Ext w w' := by
  have C1 := Lib.hid (fun w => refValid_any ic A n c w hn)
  have C2 := Lib.hid (fun w => refValid_any oc B m d w hm)
  rw [decide_eq_true h1] at C1
  rw [decide_eq_true h2] at C2
  clear h1 h2
  rcases h5 with rfl | rfl
  · go_enter Try.func20, Try.ntmps20
    go_wp2_with fail
    refine (C1.out _).mono ?_
    rintro e w' ⟨rfl, hE⟩
    obtain ⟨x, rfl⟩ := hE.plus
    clear hE
    go_wp2_with fail
    refine (C2.out _).mono ?_
    rintro e w' ⟨rfl, hE⟩
    obtain ⟨x, rfl⟩ := hE.plus
    clear hE
    go_wp2_with fail
    go_ret
    refine ⟨rfl, ?_⟩
    repeat (first | exact Ext.refl _ | apply Ext.drew | apply Ext.drewN | apply Ext.plus_ | apply Ext.alloc | assumption)
  · by_cases hb : bu = 0
    · subst hb
      go_enter Try.func20, Try.ntmps20
      go_wp2_with fail
      refine (C1.out _).mono ?_
      rintro e w' ⟨rfl, hE⟩
      obtain ⟨x, rfl⟩ := hE.plus
      clear hE
      go_wp2_with fail
      refine (C2.out _).mono ?_
      rintro e w' ⟨rfl, hE⟩
      obtain ⟨x, rfl⟩ := hE.plus
      clear hE
      go_wp2_with fail
      go_ret
      refine ⟨rfl, ?_⟩
      repeat (first | exact Ext.refl _ | apply Ext.drew | apply Ext.drewN | apply Ext.plus_ | apply Ext.alloc | assumption)
    · have hb2 : (bu == 0) = false := by simp [hb]
      go_enter Try.func20, Try.ntmps20
      go_wp2_with fail
      refine (C1.out _).mono ?_
      rintro e w' ⟨rfl, hE⟩
      obtain ⟨x, rfl⟩ := hE.plus
      clear hE
      go_wp2_with fail
      refine (C2.out _).mono ?_
      rintro e w' ⟨rfl, hE⟩
      obtain ⟨x, rfl⟩ := hE.plus
      clear hE
      go_wp2_with fail
      go_ret
      refine ⟨rfl, ?_⟩
      repeat (first | exact Ext.refl _ | apply Ext.drew | apply Ext.drewN | apply Ext.plus_ | apply Ext.alloc | assumption)
end Go.Proofs.Ytphbmibgnnobcaa
