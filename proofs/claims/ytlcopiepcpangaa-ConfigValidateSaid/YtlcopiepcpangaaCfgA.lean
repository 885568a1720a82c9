/- All contracts of one configuration. -/
import Derived.Test.YtlcopiepcpangaaCfg9
set_option linter.unusedVariables false
namespace Go.Proofs.Ytlcopiepcpangaa
open Go.RowKit Go.Rg

theorem CfOK.stb {c : Cf} {b : Nat} {W W' : World} {wl : List Int} {ig : List ByteArray} (h : CfOK c W wl ig) (k : StB b W W') (h1 : ∀ a, c.pA = some a → a.block ≠ b) (h2 : ∀ a, c.iA = some a → a.block ≠ b) : CfOK c W' wl ig := by
  have p := k.row h.pr h1
  have i := k.row h.ir h2
  rw [← k.size] at p i
  exact ⟨p, i, h.pn, h.im, h.pm, h.ikm, h.si, h.ss, h.cs⟩
/-- The functions over one configuration, and their references. -/
structure Overs (c : Cf) (w : World) (z hv uv : Int) (bb : Value) : Prop where
  V : Over 7 c w (.int .i64 z)
  R : Over 9 c w (.int .i64 z)
  H : Over 11 c w (.int .i64 hv)
  RH : Over 12 c w (.int .i64 hv)
  U : Over 13 c w (.int .i64 uv)
  RU : Over 14 c w (.int .i64 uv)
  B : Over 15 c w (bb)
  RB : Over 16 c w (bb)
theorem CfOK.bool {c : Cf} {w : World} {wl : List Int} {ig : List ByteArray} (_ : CfOK c w wl ig) : ∃ pb : Bool, pb = true ↔ PlanOK wl c.mi c.nu c.de c.ho c.wi := by
  by_cases h : PlanOK wl c.mi c.nu c.de c.ho c.wi
  · exact ⟨true, ⟨fun _ => h, fun _ => rfl⟩⟩
  · exact ⟨false, ⟨fun h => (by cases h), fun k => absurd k h⟩⟩
theorem CfOK.overs_ {c : Cf} {w : World} {wl : List Int} {ig : List ByteArray} (k : CfOK c w wl ig) (pb : Bool) (hpb : pb = true ↔ PlanOK wl c.mi c.nu c.de c.ho c.wi) :
    Overs c w (if cfB c pb ig then 0 else 8) (hardV c (cfB c pb ig)) (upV c (cfB c pb ig)) (bv c (cfB c pb ig)) := by
  have hV : Over 7 c w (.int .i64 (if cfB c pb ig then 0 else 8)) := Lib.hid fun W e => cvalidate_any c wl ig pb hpb W (k.lift e)
  have hR : Over 9 c w (.int .i64 (if cfB c pb ig then 0 else 8)) := Lib.hid fun W e => refConfig_any c wl ig pb hpb W (k.lift e)
  have hN : cfB c pb ig = true → CfN c := fun h => CfN.of h
  have hH : Over 11 c w (.int .i64 (hardV c (cfB c pb ig))) := Lib.hid fun W e => hard_any c _ hN W (hV.at e)
  have hRH : Over 12 c w (.int .i64 (hardV c (cfB c pb ig))) := Lib.hid fun W e => refHard_any c _ hN W (hR.at e)
  have hU : Over 13 c w (.int .i64 (upV c (cfB c pb ig))) := Lib.hid fun W e => up_any c _ hN W (hV.at e)
  have hRU : Over 14 c w (.int .i64 (upV c (cfB c pb ig))) := Lib.hid fun W e => refUp_any c _ hN W (hR.at e)
  exact ⟨hV, hR, hH, hRH, hU, hRU, Lib.hid fun W e => bound_any c _ hN W (hV.at e) (hH.at e) (hU.at e), Lib.hid fun W e => refBound_any c _ hN W (hR.at e) (hRH.at e) (hRU.at e)⟩
theorem CfOK.overs {c : Cf} {w : World} {wl : List Int} {ig : List ByteArray} (k : CfOK c w wl ig) : ∃ z hv uv x1 x2 x3, Overs c w z hv uv (.agg #[.int .i64 x1, .int .i64 x2, .int .i64 x3]) := by
  obtain ⟨pb, hpb⟩ := k.bool
  exact ⟨_, _, _, _, _, _, k.overs_ pb hpb⟩
end Go.Proofs.Ytlcopiepcpangaa
