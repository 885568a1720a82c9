/- The operations on words, each in one step. -/
import Derived.Test.YtbdahlfakinagaaDoorD0
import Derived.Test.YtbdahlfakinagaaDoorSeq2
import Derived.Test.YtbdahlfakinagaaDoorPlus
import Derived.Laws.EntriesVeiled
import Derived.IntWalk
set_option linter.unusedVariables false
namespace Go.Proofs.YtbdahlfakinagaaDoor
open Go.RowKit Go.Rg
variable {d : Option Tmp} {x y : Operand} {pos : String} {after : Array Edge} {guard : Option (Nat × Bool)} {F : Act} {W : World}
theorem w_add {a b : W32} (hx : F.eval x = bw a) (hy : F.eval y = bw b)  :
    comes Tryd.prog { dst := d, op := .binOp .add 31 x y 31, type := 31, pos := pos, after := after, guard := guard } F W (fun v w' => Ext W w' ∧ v = bw (a + b)) := by
  simp only [comes, execOp, hx, hy]
  go_simp
  exact ⟨Ext.refl _, by rw [b_add]; first | rfl | simp⟩
theorem w_xor {a b : W32} (hx : F.eval x = bw a) (hy : F.eval y = bw b)  :
    comes Tryd.prog { dst := d, op := .binOp .xor 31 x y 31, type := 31, pos := pos, after := after, guard := guard } F W (fun v w' => Ext W w' ∧ v = bw (a ^^^ b)) := by
  simp only [comes, execOp, hx, hy]
  go_simp
  exact ⟨Ext.refl _, by rw [b_xor]; first | rfl | simp⟩
theorem w_and {a b : W32} (hx : F.eval x = bw a) (hy : F.eval y = bw b)  :
    comes Tryd.prog { dst := d, op := .binOp .and 31 x y 31, type := 31, pos := pos, after := after, guard := guard } F W (fun v w' => Ext W w' ∧ v = bw (a &&& b)) := by
  simp only [comes, execOp, hx, hy]
  go_simp
  exact ⟨Ext.refl _, by rw [b_and]; first | rfl | simp⟩
theorem w_or {a b : W32} (hx : F.eval x = bw a) (hy : F.eval y = bw b)  :
    comes Tryd.prog { dst := d, op := .binOp .or 31 x y 31, type := 31, pos := pos, after := after, guard := guard } F W (fun v w' => Ext W w' ∧ v = bw (a ||| b)) := by
  simp only [comes, execOp, hx, hy]
  go_simp
  exact ⟨Ext.refl _, by rw [b_or]; first | rfl | simp⟩
theorem n_add {a b : Nat} (hx : F.eval x = nw a) (hy : F.eval y = nw b) (h : a + b ≤ 4611686018427387904) :
    comes Tryd.prog { dst := d, op := .binOp .add 3 x y 3, type := 3, pos := pos, after := after, guard := guard } F W (fun v w' => Ext W w' ∧ v = nw (a + b)) := by
  simp only [comes, execOp, hx, hy]
  go_simp
  exact ⟨Ext.refl _, IntWalk.i64_in _ ⟨by omega, by omega⟩⟩
theorem n_mul {a b : Nat} (hx : F.eval x = nw a) (hy : F.eval y = nw b) (h : a * b ≤ 4611686018427387904) :
    comes Tryd.prog { dst := d, op := .binOp .mul 3 x y 3, type := 3, pos := pos, after := after, guard := guard } F W (fun v w' => Ext W w' ∧ v = nw (a * b)) := by
  simp only [comes, execOp, hx, hy]
  go_simp
  exact ⟨Ext.refl _, by rw [← Int.natCast_mul]; exact IntWalk.i64_in _ ⟨by omega, by omega⟩⟩
theorem n_sub {a b : Nat} (hx : F.eval x = nw a) (hy : F.eval y = nw b) (h : b ≤ a) (h2 : a ≤ 4611686018427387904) :
    comes Tryd.prog { dst := d, op := .binOp .sub 3 x y 3, type := 3, pos := pos, after := after, guard := guard } F W (fun v w' => Ext W w' ∧ v = nw (a - b)) := by
  simp only [comes, execOp, hx, hy]
  go_simp
  exact ⟨Ext.refl _, by rw [IntWalk.i64_in _ ⟨by omega, by omega⟩]; omega⟩
theorem n_lt {a b : Nat} (hx : F.eval x = nw a) (hy : F.eval y = nw b) (h : a < b) :
    comes Tryd.prog { dst := d, op := .binOp .lss 3 x y 3, type := 4, pos := pos, after := after, guard := guard } F W (fun v w' => Ext W w' ∧ v = .bool true) := by
  simp only [comes, execOp, hx, hy]
  go_simp
  exact Ext.refl _
theorem n_ge {a b : Nat} (hx : F.eval x = nw a) (hy : F.eval y = nw b) (h : b ≤ a) :
    comes Tryd.prog { dst := d, op := .binOp .lss 3 x y 3, type := 4, pos := pos, after := after, guard := guard } F W (fun v w' => Ext W w' ∧ v = .bool false) := by
  simp only [comes, execOp, hx, hy]
  go_simp
  exact Ext.refl _
theorem w_shl_u64 {a : W32} {n : Nat} (hx : F.eval x = bw a) (hy : F.eval y = .int .u64 (n : Int)) (h : n ≤ 32) :
    comes Tryd.prog { dst := d, op := .binOp .shl 31 x y 45, type := 31, pos := pos, after := after, guard := guard } F W (fun v w' => Ext W w' ∧ v = bw (a <<< n)) := by
  simp only [comes, execOp, hx, hy]
  go_simp
  exact ⟨Ext.refl _, by have := b_shl a n; first | exact this | (simp at this ⊢; omega)⟩
theorem w_shr_u64 {a : W32} {n : Nat} (hx : F.eval x = bw a) (hy : F.eval y = .int .u64 (n : Int)) (h : n ≤ 32) :
    comes Tryd.prog { dst := d, op := .binOp .shr 31 x y 45, type := 31, pos := pos, after := after, guard := guard } F W (fun v w' => Ext W w' ∧ v = bw (a >>> n)) := by
  simp only [comes, execOp, hx, hy]
  go_simp
  exact ⟨Ext.refl _, by have := b_shr a n; first | exact this | (simp at this ⊢; omega)⟩
theorem w_shl_i64 {a : W32} {n : Nat} (hx : F.eval x = bw a) (hy : F.eval y = .int .i64 (n : Int)) (h : n ≤ 32) :
    comes Tryd.prog { dst := d, op := .binOp .shl 31 x y 3, type := 31, pos := pos, after := after, guard := guard } F W (fun v w' => Ext W w' ∧ v = bw (a <<< n)) := by
  simp only [comes, execOp, hx, hy]
  go_simp
  exact ⟨Ext.refl _, by have := b_shl a n; first | exact this | (simp at this ⊢; omega)⟩
theorem w_shr_i64 {a : W32} {n : Nat} (hx : F.eval x = bw a) (hy : F.eval y = .int .i64 (n : Int)) (h : n ≤ 32) :
    comes Tryd.prog { dst := d, op := .binOp .shr 31 x y 3, type := 31, pos := pos, after := after, guard := guard } F W (fun v w' => Ext W w' ∧ v = bw (a >>> n)) := by
  simp only [comes, execOp, hx, hy]
  go_simp
  exact ⟨Ext.refl _, by have := b_shr a n; first | exact this | (simp at this ⊢; omega)⟩
theorem u_sub {a b : Nat} (hx : F.eval x = .int .u64 (a : Int)) (hy : F.eval y = .int .u64 (b : Int)) (h : b ≤ a) (h2 : a ≤ 64) :
    comes Tryd.prog { dst := d, op := .binOp .sub 45 x y 45, type := 45, pos := pos, after := after, guard := guard } F W (fun v w' => Ext W w' ∧ v = .int .u64 ((a - b : Nat) : Int)) := by
  simp only [comes, execOp, hx, hy]
  go_simp
  exact ⟨Ext.refl _, by simp only [IntKind.wrap, IntKind.bits, IntKind.signed]; simp; omega⟩
theorem cell_plus {p : Addr} {v : Value} (z : Array Obj × Nat) (h : W.cell? p = some v) : (W.plus z).cell? p = some v := Ext.cell (Ext.plus_ (Ext.refl W) z) h
/-- A row of words. -/
theorem wcell {N : Nat} {ws : List W32} (h : Box 0 (ws.map bw) N W) {k : Nat} (hk : k < ws.length) : W.cell? ⟨N, k, none⟩ = some (bw (ws.getD k 0)) := by
  have := h.cell k (by simpa using hk)
  rw [this, List.getElem?_map, List.getElem?_eq_getElem hk, List.getD_eq_getElem?_getD, List.getElem?_eq_getElem hk]
  rfl
theorem w_not {a : W32} (hx : F.eval x = bw a) :
    comes Tryd.prog { dst := d, op := .unOp .xor 31 x, type := 31, pos := pos, after := after, guard := guard } F W (fun v w' => Ext W w' ∧ v = bw (~~~ a)) := by
  simp only [comes, execOp, hx]
  go_simp
  have e : (if IntKind.u32.signed = true then (-1 : Int) else IntKind.u32.max) = ((BitVec.allOnes 32).toNat : Int) := by decide
  exact ⟨Ext.refl _, by rw [e, b_xor, BitVec.allOnes_xor]; simp⟩
theorem w_conv {a : Int} (hx : F.eval x = .int .u8 a) (h0 : 0 ≤ a) (h1 : a ≤ 255) :
    comes Tryd.prog { dst := d, op := .convert 5 31 x, type := 31, pos := pos, after := after, guard := guard } F W (fun v w' => Ext W w' ∧ v = bw (BitVec.ofInt 32 a)) := by
  simp only [comes, execOp, hx]
  go_simp
  exact ⟨Ext.refl _, by rw [IntKind.wrap_u32]; omega⟩
theorem w_conv8 {a : W32} (hx : F.eval x = bw a) :
    comes Tryd.prog { dst := d, op := .convert 31 5 x, type := 5, pos := pos, after := after, guard := guard } F W (fun v w' => Ext W w' ∧ v = .int .u8 ((a.toNat % 256 : Nat) : Int)) := by
  simp only [comes, execOp, hx]
  go_simp
  exact ⟨Ext.refl _, by rw [IntKind.wrap_u8]⟩
theorem a_i64 {b n : Nat} (hx : F.eval x = .pointer (some ⟨b, 0, none⟩)) (hy : F.eval y = nw n) (h : n < 64) :
    comes Tryd.prog { dst := d, op := .indexAddr 47 x y, type := 0, pos := pos, after := after, guard := guard } F W (fun v w' => Ext W w' ∧ v = .pointer (some ⟨b, n, none⟩)) := by
  have h' : (n : Int) < 64 := by omega
  have h0 : (0 : Int) ≤ (n : Int) := by omega
  simp only [comes, execOp, hx, hy]
  go_simp
  exact Ext.refl _
theorem a_i8 {b n : Nat} (hx : F.eval x = .pointer (some ⟨b, 0, none⟩)) (hy : F.eval y = nw n) (h : n < 8) :
    comes Tryd.prog { dst := d, op := .indexAddr 32 x y, type := 0, pos := pos, after := after, guard := guard } F W (fun v w' => Ext W w' ∧ v = .pointer (some ⟨b, n, none⟩)) := by
  have h' : (n : Int) < 8 := by omega
  have h0 : (0 : Int) ≤ (n : Int) := by omega
  simp only [comes, execOp, hx, hy]
  go_simp
  exact Ext.refl _
theorem a_sl {b o n m c : Nat} (hx : F.eval x = .slice (some ⟨b, o, none⟩) m c) (hy : F.eval y = nw n) (h : n < m) :
    comes Tryd.prog { dst := d, op := .indexAddr 22 x y, type := 0, pos := pos, after := after, guard := guard } F W (fun v w' => Ext W w' ∧ v = .pointer (some ⟨b, o + n, none⟩)) := by
  have h' : (n : Int) < (m : Int) := by omega
  have h0 : (0 : Int) ≤ (n : Int) := by omega
  simp only [comes, execOp, hx, hy]
  go_simp
  exact Ext.refl _
theorem l_w {b n : Nat} {a : W32} (hx : F.eval x = .pointer (some ⟨b, n, none⟩)) (hc : W.cell? ⟨b, n, none⟩ = some (bw a)) :
    comes Tryd.prog { dst := d, op := .load 31 x, type := 31, pos := pos, after := after, guard := guard } F W (fun v w' => Ext W w' ∧ v = bw a) := by
  simp only [comes, execOp, hx]
  go_simp
  first | exact ⟨Ext.refl _, rfl⟩ | exact Ext.refl _
theorem l_b {b n : Nat} {a : Int} (hx : F.eval x = .pointer (some ⟨b, n, none⟩)) (hc : W.cell? ⟨b, n, none⟩ = some (.int .u8 a)) :
    comes Tryd.prog { dst := d, op := .load 5 x, type := 5, pos := pos, after := after, guard := guard } F W (fun v w' => Ext W w' ∧ v = .int .u8 a) := by
  simp only [comes, execOp, hx]
  go_simp
  first | exact ⟨Ext.refl _, rfl⟩ | exact Ext.refl _
theorem m_v {ty : TypeId} {v0 : Value} (hx : F.eval x = v0) :
    comes Tryd.prog { dst := d, op := .move x, type := ty, pos := pos, after := after, guard := guard } F W (fun v w' => Ext W w' ∧ v = v0) := by
  simp only [comes, execOp, hx]
  go_simp
  first | exact ⟨Ext.refl _, rfl⟩ | exact Ext.refl _
theorem as_v {ty : TypeId} {v0 : Value} (hx : F.eval x = v0) :
    comes Tryd.prog { dst := d, op := .assign x, type := ty, pos := pos, after := after, guard := guard } F W (fun v w' => Ext W w' ∧ v = v0) := by
  simp only [comes, execOp, hx]
  go_simp
  first | exact ⟨Ext.refl _, rfl⟩ | exact Ext.refl _
end Go.Proofs.YtbdahlfakinagaaDoor
