/- The arguments of chapter 4's laws, opened; what the row's list of variables gives. -/
import Derived.Test.YtbdahlfakinagaaDoorDgK0
import Derived.Test.YtbdahlfakinagaaDoorOpen
import Derived.Test.YtbdahlfakinagaaDoorCards
import Derived.Test.YtbdahlfakinagaaDoorTie
import Derived.WalkKit
import Derived.OpenShut
import Derived.Deep.DeepHandedRow
import Derived.Lib.LaidTab
import Derived.Stop.LaidErr
set_option linter.unusedVariables false
namespace Go.Proofs.YtbdahlfakinagaaDoor
open Go.ChangeShapes Go.WideShapes Go.ChangeAt Go.RowKit Go.Deep Go.Rg
section
variable {H : Type} {enc : TypeId × Value → H} {w : World} {spare : Nat → Bool} {held : Bool} {r : Reach} {b0 : Nat} {v : Value} {d : DataW H} {p : List MemPlace}
theorem byteCells : Tryd.prog.cellsOf 5 = 1 := by kernel_rfl
theorem sliceCells : Tryd.prog.cellsOf 22 = 1 := by kernel_rfl
theorem cell_u8 {fuel : Nat} {x : Value} {y : DataW H × List MemPlace} (h : DataW.trod enc Tryd.prog w 0 spare held fuel 5 [x] = some y) : ∃ n, x = .int .u8 n ∧ (0 ≤ n ∧ n ≤ 255) := by
  obtain ⟨n, hc, _, hw⟩ := DataW.trod_int Tryd.underlying5 h
  simp at hc
  exact ⟨n, hc, u8_of_wf hw⟩
theorem open_u8 (hv : Value.okWide Tryd.prog w r b0 5 v) (h : DataW.Trod enc Tryd.prog w 0 spare held 5 v d p) : ∃ n, v = .int .u8 n ∧ (0 ≤ n ∧ n ≤ 255) := by
  obtain ⟨n, rfl, _, _, hw⟩ := open_int Tryd.underlying5 hv h
  exact ⟨n, rfl, u8_of_wf hw⟩
theorem cell_bs {fuel : Nat} {x : Value} {y : DataW H × List MemPlace} (hf : DataW.trod enc Tryd.prog w 0 spare held fuel 22 [x] = some y) : ∃ l : List Int, BS w x l ∧ By l := by
  obtain ⟨A, n, c, V, rfl, ha, hi⟩ := row1_cells Tryd.underlying22 byteCells hf
  obtain ⟨l, _, he, hq⟩ := choose_list2 n V (Value.int .u8) (fun x => 0 ≤ x ∧ x ≤ 255) fun i h => by obtain ⟨_, _, hy⟩ := hi i h; exact cell_u8 hy
  refine ⟨l, ⟨A, n, c, rfl, ?_, ha.2.1, ha.2.2.1, ha.2.2.2⟩, hq⟩
  rw [bytes, ← he]
  exact ha.1
theorem open_bs (hv : Value.okWide Tryd.prog w r b0 22 v) (h : DataW.Trod enc Tryd.prog w 0 spare held 22 v d p) : ∃ l : List Int, BS w v l ∧ By l := by
  obtain ⟨A, n, c, V, rfl, ha, hi⟩ := open_row1 Tryd.underlying22 byteCells hv h
  obtain ⟨l, _, he, hq⟩ := choose_list2 n V (Value.int .u8) (fun x => 0 ≤ x ∧ x ≤ 255) fun i h => by obtain ⟨_, _, hy⟩ := hi i h; exact cell_u8 hy
  refine ⟨l, ⟨A, n, c, rfl, ?_, ha.2.1, ha.2.2.1, ha.2.2.2⟩, hq⟩
  rw [bytes, ← he]
  exact ha.1
theorem open_bss (hv : Value.okWide Tryd.prog w r b0 30 v) (h : DataW.Trod enc Tryd.prog w 0 spare held 30 v d p) :
    ∃ A n c, ∃ V : Nat → Value, v = .slice A n c ∧ Row w w.heap.size 1 A n ((List.range n).map V) ∧ n ≤ c ∧ c ≤ 9223372036854775807 ∧ ∀ i, i < n → ∃ l : List Int, BS w (V i) l ∧ By l := by
  obtain ⟨A, n, c, V, rfl, ha, hi⟩ := open_row1 Tryd.underlying30 sliceCells hv h
  exact ⟨A, n, c, V, rfl, ha.1, ha.2.1, ha.2.2.1, fun i hin => by obtain ⟨_, _, hy⟩ := hi i hin; exact cell_bs hy⟩
end
theorem gIni : Tryd.prog.globalNamed "canary/digest.initial" = some 0 := by kernel_rfl
theorem gCon : Tryd.prog.globalNamed "canary/digest.constants" = some 1 := by kernel_rfl
theorem gIniT : (Tryd.prog.globals[0]?).map (·.type) = some 32 := by kernel_rfl
theorem gConT : (Tryd.prog.globals[1]?).map (·.type) = some 47 := by kernel_rfl
theorem cells8 : Tryd.prog.cellsOf 32 = 8 := by kernel_rfl
theorem cells64 : Tryd.prog.cellsOf 47 = 64 := by kernel_rfl
theorem cellsW : Tryd.prog.cellsOf 31 = 1 := by kernel_rfl
def zs (l : List W32) : List Int := l.map fun x => (x.toNat : Int)
theorem zs_at {l : List W32} {k : Nat} (h : k < l.length) : Value.int .u32 ((zs l).getD k 0) = bw (l.getD k 0) := by
  rw [zs, List.getD_eq_getElem?_getD, List.getD_eq_getElem?_getD, List.getElem?_map, List.getElem?_eq_getElem h]
  rfl
theorem data_ini : (Rows.laid_canary_digest_initial : DataW Unit) = Lib.tabData .u32 (zs IL) := by kernel_rfl
theorem data_con : (Rows.laid_canary_digest_constants : DataW Unit) = Lib.tabData .u32 (zs KL) := by kernel_rfl
theorem glob {W : World} (h : laidMet Tryd.prog [("canary/digest.initial", Rows.laid_canary_digest_initial), ("canary/digest.constants", Rows.laid_canary_digest_constants)] W) : Glob W ∧ 2 ≤ W.heap.size := by
  rw [data_ini, data_con] at h
  have h0 := Lib.tabIs_of_head gIni gIniT Tryd.underlying32 Tryd.underlying31 cellsW cells8 h
  have h1 := Lib.tabIs_of_head gCon gConT Tryd.underlying47 Tryd.underlying31 cellsW cells64 (laidMet.tail h)
  have hl0 : (zs IL).length = 8 := rfl
  have hl1 : (zs KL).length = 64 := rfl
  have c : ∀ k, k < 64 → W.cell? ⟨1, k, none⟩ = some (bw (KL.getD k 0)) := fun k hk => by rw [← zs_at (l := KL) (by exact hk)]; exact h1.cell gCon k (by rw [hl1]; exact hk)
  refine ⟨⟨fun k hk => by rw [← zs_at (l := IL) (by exact hk)]; exact h0.cell gIni k (by rw [hl0]; exact hk), c⟩, ?_⟩
  exact Go.heap_lt_of_isSome (w := W) (a := ⟨1, 0, none⟩) (by rw [c 0 (by decide)]; rfl)
def laidAs (l : List W32) : Obj → Obj
  | .cells _ t frozen => .cells (l.map bw).toArray t frozen
  | o => o
/-- A world for the witness: the settled one, the two variables laid. -/
noncomputable def laidWorld (os : Os) : World :=
  { World.holding Tryd.prog os ⟨#[], #[], []⟩ with
    heap := ((World.holding Tryd.prog os ⟨#[], #[], []⟩).heap.modify 0 (laidAs IL)).modify 1 (laidAs KL) }
end Go.Proofs.YtbdahlfakinagaaDoor
