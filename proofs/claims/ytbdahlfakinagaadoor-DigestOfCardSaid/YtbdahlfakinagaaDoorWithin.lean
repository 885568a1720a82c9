/- Within. -/
import Derived.Test.YtbdahlfakinagaaDoorRows
import Derived.WalkKit
import Derived.WalkSpells
import Derived.WalkLawsBesides
import Derived.Lib.Hide
import Derived.Test.YtbdahlfakinagaaDoorPlus
set_option linter.unusedVariables false
namespace Go.Proofs.YtbdahlfakinagaaDoor
open Go.RowKit Go.Rg
theorem within_num (x n : Int) (hn : 0 < n) (hn' : n ≤ 4611686018427387904) : (wrap64 (x.tmod n + n)).tmod n = x % n := by
  have h1 : -n < x.tmod n := by have := Int.lt_tmod_of_pos x hn; omega
  have h2 : x.tmod n < n := Int.tmod_lt_of_pos x hn
  rw [IntWalk.wrap64_in _ ⟨by omega, by omega⟩, Int.tmod_eq_emod_of_nonneg (by omega)]
  rw [Int.add_emod_right]
  have := Int.tmod_eq_emod (a := x) (b := n)
  rw [this]
  have hn2 : (n.natAbs : Int) = n := by omega
  split
  · simp
  · rw [hn2, Int.sub_emod_right]; simp

theorem within_any (x n : Int) (w : World) (hn : 0 < n) (hn' : n ≤ 4611686018427387904) :
    Calls Tryd.prog 9 #[.int .i64 x, .int .i64 n] w fun e w' => e = .returned (.int .i64 (x % n)) ∧ w = w' := by
  have hz : (n == 0) = false := by simp; omega
  go_enter Tryd.func9, Tryd.ntmps9
  go_wp2
  go_ret
  exact ⟨by show Ending.returned (.int .i64 ((wrap64 (x.tmod n + n)).tmod n)) = _; rw [within_num x n hn hn'], rfl⟩

end Go.Proofs.YtbdahlfakinagaaDoor
