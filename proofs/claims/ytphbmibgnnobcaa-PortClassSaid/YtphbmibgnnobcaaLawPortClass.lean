/- PortClass: the walk. -/
import Derived.Test.YtphbmibgnnobcaaPort6
import Derived.Test.YtphbmibgnnobcaaWithin
import Derived.Test.YtphbmibgnnobcaaOpen
import Derived.Deep.CutRange
set_option linter.unusedVariables false
namespace Go.Proofs.Ytphbmibgnnobcaa
open Go.RowKit Go.Rg

set_option maxHeartbeats 2000000 in
theorem pclass_raw (id i o : Int) (w : World) : Calls Try.prog 3 #[.int .i64 id, .int .i64 i, .int .i64 o, .bool true] w fun e w' => e = .returned (.bool true) ∧ Ext w w' := by
  go_enter Try.func3, Try.ntmps3
  go_wp2_with fail
  refine (cls_any _ _).mono ?_
  rintro e w' ⟨rfl, hE⟩
  obtain ⟨x, rfl⟩ := hE.plus
  clear hE
  go_wp2_with fail
  refine (refCls_any _ _).mono ?_
  rintro e w' ⟨rfl, hE⟩
  obtain ⟨x, rfl⟩ := hE.plus
  clear hE
  go_wp2_with fail
  refine (pnew_any _ _ _ _).mono ?_
  rintro e w' ⟨rfl, hE⟩
  obtain ⟨x, rfl⟩ := hE.plus
  clear hE
  go_wp2_with fail
  refine (refPnew_any _ _ _ _).mono ?_
  rintro e w' ⟨rfl, hE⟩
  obtain ⟨x, rfl⟩ := hE.plus
  clear hE
  go_wp2_with fail
  refine (samePort_any _ _ _ none 0 0 [] _ none 0 0 [] _ _ _ none 0 0 none 0 0 _ Row.nil Row.nil Row.nil Row.nil).mono ?_
  rintro e w' ⟨rfl, hE⟩
  obtain ⟨x, rfl⟩ := hE.plus
  clear hE
  go_wp2_with fail
  refine (awake_any _).mono ?_
  rintro e w' ⟨rfl, hE⟩
  obtain ⟨x, rfl⟩ := hE.plus
  clear hE
  go_wp2_with fail
  go_ret
  refine ⟨rfl, ?_⟩
  repeat (first | exact Ext.refl _ | apply Ext.drew | apply Ext.drewN | apply Ext.plus_ | apply Ext.alloc | assumption)
set_option maxHeartbeats 4000000 in
theorem pclass_tame (id i o : Int) (w : World) : Calls Try.prog 3 #[.int .i64 id, .int .i64 i, .int .i64 o, .bool false] w fun e w' => e = .returned (.bool true) ∧ Ext w w' := by
  have C1 := Lib.hid (fun w => within_any id 11 w (by decide) (by decide))
  have C2 := Lib.hid (fun w => within_any i 3 w (by decide) (by decide))
  obtain ⟨z, hz⟩ : ∃ z, z = id % 11 := ⟨_, rfl⟩
  have hz1 : 0 ≤ z := by omega
  have hz2 : z < 11 := by omega
  rw [← hz] at C1
  obtain ⟨y, hy⟩ : ∃ z, z = i % 3 := ⟨_, rfl⟩
  have hy1 : 0 ≤ y := by omega
  have hy2 : y < 3 := by omega
  rw [← hy] at C2
  clear hz hy
  go_enter Try.func3, Try.ntmps3
  go_wp2_with fail
  go_cut [0] from 9 to 38 (fun s0 wx => ∃ j : Int, s0 = .int .i64 j ∧ Ext w wx)
  case first =>
    obtain ⟨zn, rfl⟩ := Int.eq_ofNat_of_zero_le hz1
    have hz3 : zn < 11 := by omega
    obtain ⟨y0, hk, hy3, hy4⟩ : ∃ y0 : Int, ([.int .i64 0, .int .i64 1, .int .i64 100000, .int .i64 200000, .int .i64 300000, .int .i64 1000000, .int .i64 2000000, .int .i64 3000000, .int .i64 3900000, .int .i64 100050, .int .i64 77] : List Value)[zn]? = some (.int .i64 y0) ∧ 0 ≤ y0 ∧ y0 ≤ 3900000 := by
      rcases (show zn = 0 ∨ zn = 1 ∨ zn = 2 ∨ zn = 3 ∨ zn = 4 ∨ zn = 5 ∨ zn = 6 ∨ zn = 7 ∨ zn = 8 ∨ zn = 9 ∨ zn = 10 by omega) with rfl | rfl | rfl | rfl | rfl | rfl | rfl | rfl | rfl | rfl | rfl <;> exact ⟨_, rfl, by omega, by omega⟩
    have hcell : (w.drew.alloc (.cells #[.int .i64 0, .int .i64 1, .int .i64 100000, .int .i64 200000, .int .i64 300000, .int .i64 1000000, .int .i64 2000000, .int .i64 3000000, .int .i64 3900000, .int .i64 100050, .int .i64 77] 3)).cell? ⟨w.heap.size, zn, none⟩ = some (.int .i64 y0) := (Cells.new w.drew #[.int .i64 0, .int .i64 1, .int .i64 100000, .int .i64 200000, .int .i64 300000, .int .i64 1000000, .int .i64 2000000, .int .i64 3000000, .int .i64 3900000, .int .i64 100050, .int .i64 77] 3 _ rfl).2 zn _ hk
    obtain ⟨hkl, hke⟩ := List.getElem?_eq_some_iff.1 hk
    clear hk hz1
    go_region_with (go_at_call 6; (first | ((with_reducible refine (C1.out _).mono ?_); (rintro e w' ⟨rfl, rfl⟩)) | ((with_reducible refine (C2.out _).mono ?_); (rintro e w' ⟨rfl, rfl⟩))))
    all_goals
      go_wp2_with fail
      go_meet
      case rel =>
        refine ⟨_, rfl, ?_⟩
        repeat (first | exact Ext.refl _ | apply Ext.drew | apply Ext.drewN | apply Ext.plus_ | apply Ext.alloc | assumption)
  case rest =>
  obtain ⟨j, rfl, hE0⟩ := hcut
  have HE := Lib.hid hE0
  clear hE0
  go_wp2_with fail
  refine calls_at fun W hW => ?_
  have hE : Ext w W := by
    rw [hW]
    exact HE.out
  clear hW HE
  refine (cls_any _ _).mono ?_
  rintro e X ⟨rfl, hX⟩
  replace hE := hE.trans hX
  have HE := Lib.hid hE
  clear hE hX
  go_wp2_with fail
  refine (refCls_any _ _).mono ?_
  rintro e X2 ⟨rfl, hX⟩
  have hE := HE.out.trans hX
  clear hX HE
  have HE := Lib.hid hE
  clear hE
  go_wp2_with fail
  refine (pnew_any _ _ _ _).mono ?_
  rintro e X3 ⟨rfl, hX⟩
  have hE := HE.out.trans hX
  clear hX HE
  have HE := Lib.hid hE
  clear hE
  go_wp2_with fail
  refine (refPnew_any _ _ _ _).mono ?_
  rintro e X4 ⟨rfl, hX⟩
  have hE := HE.out.trans hX
  clear hX HE
  have HE := Lib.hid hE
  clear hE
  go_wp2_with fail
  refine (samePort_any _ _ _ none 0 0 [] _ none 0 0 [] _ _ _ none 0 0 none 0 0 _ Row.nil Row.nil Row.nil Row.nil).mono ?_
  rintro e X5 ⟨rfl, hX⟩
  have hE := HE.out.trans hX
  clear hX HE
  have HE := Lib.hid hE
  clear hE
  go_wp2_with fail
  refine (awake_any _).mono ?_
  rintro e X6 ⟨rfl, hX⟩
  go_wp2
  go_ret
  exact ⟨rfl, HE.out.trans hX⟩
theorem law_pclass (v0 v1 v2 v3 : Value) (w : World) (p0 : ∃ n, v0 = .int .i64 n ∧ I64 n) (p1 : ∃ n, v1 = .int .i64 n ∧ I64 n) (p2 : ∃ n, v2 = .int .i64 n ∧ I64 n) (p3 : ∃ b, v3 = .bool b) :
    Calls Try.prog 3 #[v0, v1, v2, v3] w fun e w' => e = .returned (.bool true) ∧ Ext w w' := by
  obtain ⟨id, rfl, _⟩ := p0
  obtain ⟨i, rfl, _⟩ := p1
  obtain ⟨o, rfl, _⟩ := p2
  obtain ⟨b, rfl⟩ := p3
  cases b
  · exact pclass_tame id i o w
  · exact pclass_raw id i o w
end Go.Proofs.Ytphbmibgnnobcaa
