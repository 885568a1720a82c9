/- Hexadecimal digits. -/
import Derived.Test.YtbdahlfakinagaaDoorDgR
import Derived.Laws.BytesArg
set_option linter.unusedVariables false
namespace Go.Proofs.YtbdahlfakinagaaDoor
open Go.RowKit Go.Rg
variable {d : Option Tmp} {x y : Operand} {pos : String} {after : Array Edge} {guard : Option (Nat × Bool)} {F : Act} {W : World}

def DIG : ByteArray := ⟨#[48, 49, 50, 51, 52, 53, 54, 55, 56, 57, 97, 98, 99, 100, 101, 102]⟩
def dig (c : Int) : Int := ((digs.getD c.toNat 0).toNat : Int)
def hexI (l : List Int) : List Int := l.flatMap fun c => [dig (c / 16), dig (c % 16)]
theorem and15_fin : ∀ c : Fin 256, bits .and .u8 ((c.val : Nat) : Int) 15 = ((c.val % 16 : Nat) : Int) := by decide +kernel
theorem and15 {c : Int} (h0 : 0 ≤ c) (h1 : c ≤ 255) : bits .and .u8 c 15 = c % 16 := by
  obtain ⟨n, rfl⟩ := Int.eq_ofNat_of_zero_le h0
  have := and15_fin ⟨n, by omega⟩
  simp only at this
  rw [this]
  omega
theorem s_shr4 {c : Int} (hx : F.eval x = .int .u8 c) :
    comes Tryd.prog { dst := d, op := .binOp .shr 5 x (.const (.int .u64 4)) 45, type := 5, pos := pos, after := after, guard := guard } F W (fun v w' => Ext W w' ∧ v = .int .u8 (c / 16)) := by
  simp only [comes, execOp, hx]
  go_simp
  first | exact ⟨Ext.refl _, rfl⟩ | exact Ext.refl _
theorem s_and15 {c : Int} (hx : F.eval x = .int .u8 c) (h0 : 0 ≤ c) (h1 : c ≤ 255) :
    comes Tryd.prog { dst := d, op := .binOp .and 5 x (.const (.int .u8 15)) 5, type := 5, pos := pos, after := after, guard := guard } F W (fun v w' => Ext W w' ∧ v = .int .u8 (c % 16)) := by
  simp only [comes, execOp, hx]
  go_simp
  exact ⟨Ext.refl _, and15 h0 h1⟩
theorem run_dig (i : Int) (h0 : 0 ≤ i) (h1 : i < 16) (w : World) : (Instr.index 9 (.string ⟨#[48, 49, 50, 51, 52, 53, 54, 55, 56, 57, 97, 98, 99, 100, 101, 102]⟩) (.int .u8 i)).run Tryd.prog w = .ok (.int .u8 (dig i)) w := by
  obtain ⟨n, rfl⟩ := Int.eq_ofNat_of_zero_le h0
  have hn : n < 16 := by omega
  clear h0 h1
  match n, hn with
  | 0, _ | 1, _ | 2, _ | 3, _ | 4, _ | 5, _ | 6, _ | 7, _ | 8, _ | 9, _ | 10, _ | 11, _ | 12, _ | 13, _ | 14, _ | 15, _ => rfl
  | n + 16, h => exact absurd h (by omega)
theorem s_dig {i : Int} (hy : F.eval y = .int .u8 i) (h0 : 0 ≤ i) (h1 : i < 16) :
    comes Tryd.prog { dst := d, op := .index 9 (.const (.string ⟨#[48, 49, 50, 51, 52, 53, 54, 55, 56, 57, 97, 98, 99, 100, 101, 102]⟩)) y, type := 5, pos := pos, after := after, guard := guard } F W (fun v w' => Ext W w' ∧ v = .int .u8 (dig i)) := by
  have hr := run_dig i h0 h1 W
  unfold comes execOp
  simp only [hy]
  rw [show F.eval (.const (.string ⟨#[48, 49, 50, 51, 52, 53, 54, 55, 56, 57, 97, 98, 99, 100, 101, 102]⟩)) = .string ⟨#[48, 49, 50, 51, 52, 53, 54, 55, 56, 57, 97, 98, 99, 100, 101, 102]⟩ from rfl]
  simp only [Sem.run_bind, hr, Result.andThen_ok, Sem.run_pure]
  exact ⟨Ext.refl _, rfl⟩
theorem r_quo {c : Int} (hx : F.eval x = .int .u8 c) (h0 : 0 ≤ c) (h1 : c ≤ 255) :
    comes Tryd.prog { dst := d, op := .binOp .quo 5 x (.const (.int .u8 16)) 5, type := 5, pos := pos, after := after, guard := guard } F W (fun v w' => Ext W w' ∧ v = .int .u8 (c / 16)) := by
  simp only [comes, execOp, hx]
  go_simp
  exact ⟨Ext.refl _, by rw [Int.tdiv_eq_ediv_of_nonneg h0, IntKind.wrap_u8]; omega⟩
theorem r_rem {c : Int} (hx : F.eval x = .int .u8 c) (h0 : 0 ≤ c) (h1 : c ≤ 255) :
    comes Tryd.prog { dst := d, op := .binOp .rem 5 x (.const (.int .u8 16)) 5, type := 5, pos := pos, after := after, guard := guard } F W (fun v w' => Ext W w' ∧ v = .int .u8 (c % 16)) := by
  simp only [comes, execOp, hx]
  go_simp
  exact ⟨Ext.refl _, Int.tmod_eq_emod_of_nonneg h0⟩
theorem r_add1 {c : Int} (hx : F.eval x = .int .u8 c) (h0 : 0 ≤ c) (h1 : c < 16) :
    comes Tryd.prog { dst := d, op := .binOp .add 5 x (.const (.int .u8 1)) 5, type := 5, pos := pos, after := after, guard := guard } F W (fun v w' => Ext W w' ∧ v = .int .u8 (c + 1)) := by
  simp only [comes, execOp, hx]
  go_simp
  exact ⟨Ext.refl _, by rw [IntKind.wrap_u8]; omega⟩
theorem run_dsl (i : Int) (h0 : 0 ≤ i) (h1 : i < 16) (w : World) : (Instr.sliceAt 9 (.string ⟨#[48, 49, 50, 51, 52, 53, 54, 55, 56, 57, 97, 98, 99, 100, 101, 102]⟩) (some (.int .u8 i)) (some (.int .u8 (i + 1))) none).run Tryd.prog w = .ok (.string (strOfNums [dig i])) w := by
  obtain ⟨n, rfl⟩ := Int.eq_ofNat_of_zero_le h0
  have hn : n < 16 := by omega
  clear h0 h1
  match n, hn with
  | 0, _ | 1, _ | 2, _ | 3, _ | 4, _ | 5, _ | 6, _ | 7, _ | 8, _ | 9, _ | 10, _ | 11, _ | 12, _ | 13, _ | 14, _ | 15, _ => rfl
  | n + 16, h => exact absurd h (by omega)
theorem r_sl {i : Int} (hx : F.eval x = .int .u8 i) (hy : F.eval y = .int .u8 (i + 1)) (h0 : 0 ≤ i) (h1 : i < 16) :
    comes Tryd.prog { dst := d, op := .slice 9 (.const (.string ⟨#[48, 49, 50, 51, 52, 53, 54, 55, 56, 57, 97, 98, 99, 100, 101, 102]⟩)) (some x) (some y) none, type := 9, pos := pos, after := after, guard := guard } F W (fun v w' => Ext W w' ∧ v = .string (strOfNums [dig i])) := by
  have hr := run_dsl i h0 h1 W
  unfold comes execOp
  simp only [Option.map_some, Option.map_none, hx, hy]
  rw [show F.eval (.const (.string ⟨#[48, 49, 50, 51, 52, 53, 54, 55, 56, 57, 97, 98, 99, 100, 101, 102]⟩)) = .string ⟨#[48, 49, 50, 51, 52, 53, 54, 55, 56, 57, 97, 98, 99, 100, 101, 102]⟩ from rfl]
  simp only [Sem.run_bind, hr, Result.andThen_ok, Sem.run_pure]
  exact ⟨Ext.refl _, rfl⟩
theorem r_cat {a b : ByteArray} (hx : F.eval x = .string a) (hy : F.eval y = .string b) (h : a.size + b.size ≤ 140737488355328) :
    comes Tryd.prog { dst := d, op := .binOp .add 9 x y 9, type := 9, pos := pos, after := after, guard := guard } F W (fun v w' => Ext W w' ∧ v = .string (a ++ b)) := by
  simp only [comes, execOp, hx, hy]
  go_simp
  rw [if_neg (by omega)]
  exact ⟨Ext.refl _, rfl⟩
theorem bs_str {w : World} {A : Option Addr} {n c : Nat} {l : List Int} {B : Nat} (h : Row w B 1 A n (bytes l)) : (convert 22 9 (.slice A n c)).run Tryd.prog w = .ok (.string (strOfNums l)) w := by
  have hl : l.length = n := by have := h.len; simpa using this
  rcases Nat.eq_zero_or_pos n with h0 | h0
  · subst h0
    obtain rfl : l = [] := List.eq_nil_of_length_eq_zero hl
    cases A with
    | none => exact run_convert_bytes_nil w _ 5 Tryd.underlying22 Tryd.underlying5 0 c _ Tryd.underlying9
    | some a =>
      have hb : (Conv.bytesToString (.slice (some a) 0 c)).run Tryd.prog w = .ok (.string (strOfNums [])) w := by
        rw [run_bytesToString w a 0 c [] (by simp [loadCells, loadCellsFrom])]
        rfl
      rw [run_convert_bytes_string w _ _ 5 _ 0 c Tryd.underlying22 Tryd.underlying5 Tryd.underlying9, hb]
  · obtain ⟨b, o, rfl, _, hc⟩ := h.2 h0
    exact run_convert_bytes_arg w _ 5 Tryd.underlying22 Tryd.underlying5 b o n c l hl (fun i hi => hc i _ (by simp [List.getD, List.getElem?_eq_getElem (show i < l.length by omega)])) _ Tryd.underlying9
theorem comes_str {o : Oper} {a : Act} {w : World} {R : Value → World → Prop} (x : Operand) (ho : o.op = .convert 22 9 x) (v : Value) (hx : a.eval x = v) (l : List Int) (hb : BS w v l)
    (h : R (.string (strOfNums l)) w) : comes Tryd.prog o a w R := by
  obtain ⟨A, n, c, rfl, hr, _⟩ := hb
  have hs := bs_str (c := c) hr
  unfold comes execOp
  simp only [ho, hx, Sem.run_bind, hs, Result.andThen_ok, Sem.run_pure]
  exact h
theorem strOfNums_append (x y : List Int) : strOfNums x ++ strOfNums y = strOfNums (x ++ y) := by
  unfold strOfNums
  rw [ByteArray.mk_append_mk]
  simp
theorem sha_empty2 : strOfNums (hexI (shaOf [])) = ⟨#[101, 51, 98, 48, 99, 52, 52, 50, 57, 56, 102, 99, 49, 99, 49, 52, 57, 97, 102, 98, 102, 52, 99, 56, 57, 57, 54, 102, 98, 57, 50, 52, 50, 55, 97, 101, 52, 49, 101, 52, 54, 52, 57, 98, 57, 51, 52, 99, 97, 52, 57, 53, 57, 57, 49, 98, 55, 56, 53, 50, 98, 56, 53, 53]⟩ := by decide +kernel
end Go.Proofs.YtbdahlfakinagaaDoor
