/- Sums and products that fit; the operations of a head in one step. -/
import Derived.Test.YtlcopiepcpangaaSeq2
import Derived.Test.YtlcopiepcpangaaCfgS
import Derived.Deep.MidRow
import Derived.IntWalk
set_option linter.unusedVariables false
namespace Go.Rg
open Go.RowKit
def Iv (a l h : Int) : Prop := l ≤ a ∧ a ≤ h
theorem Iv.con (n : Int) : Iv n n n := ⟨Int.le_refl _, Int.le_refl _⟩
theorem Iv.add {a b l h l' h' : Int} (x : Iv a l h) (y : Iv b l' h') : Iv (a + b) (l + l') (h + h') := ⟨Int.add_le_add x.1 y.1, Int.add_le_add x.2 y.2⟩
theorem Iv.sub {a b l h l' h' : Int} (x : Iv a l h) (y : Iv b l' h') : Iv (a - b) (l - h') (h - l') := ⟨Int.sub_le_sub x.1 y.2, Int.sub_le_sub x.2 y.1⟩
theorem Iv.mul {a b l h l' h' : Int} (h0 : 0 ≤ l) (h1 : 0 ≤ l') (x : Iv a l h) (y : Iv b l' h') : Iv (a * b) (l * l') (h * h') :=
  ⟨Int.mul_le_mul x.1 y.1 h1 (Int.le_trans h0 x.1), Int.mul_le_mul x.2 y.2 (Int.le_trans h1 y.1) (Int.le_trans h0 (Int.le_trans x.1 x.2))⟩
theorem Iv.wide {a l h l' h' : Int} (x : Iv a l h) (h0 : l' ≤ l) (h1 : h ≤ h') : Iv a l' h' := ⟨Int.le_trans h0 x.1, Int.le_trans x.2 h1⟩
theorem Iv.wrap {a l h : Int} (x : Iv a l h) (h0 : -9223372036854775808 ≤ l) (h1 : h ≤ 9223372036854775807) : IntKind.i64.wrap a = a := IntWalk.i64_in a ⟨Int.le_trans h0 x.1, Int.le_trans x.2 h1⟩
/-- An operation under a guard that holds. -/
theorem xop_on {P : Program} {ops : Array Oper} {head : List Oper} {Ts : List (Value → World → Prop)} {a : Act} {w : World} {o : Oper} {T : Value → World → Prop} (g t j i : Nat) (hg : o.guard = some (g, true)) (h1 : (ops[g]?).bind (·.dst) = some t) (h2 : dstAt head 0 t = some j) (hb : Nat.ble (t + 1) a.tmps.size = true)
    (he : (o.after.toList[i]?).map (fun e => (e.on, dataE e)) = some (j, true)) (hT : Ts[j]? = some (is (.bool true)))
    (h : ∀ (vs : Nat → Value) (x : Array Obj × Nat) (F : Act), FrB vs head a F → depFacts Ts vs (w.plus x) o.after.toList → comes P o F (w.plus x) (fun v w' => Ext (w.plus x) w' ∧ T v w')) : xOp P ops head Ts a w o T := fun vs x hd => by
  have hv : vs j = .bool true := dep_at hd i j _ he hT
  have hy := yieldV (vs := vs) (a := a) g t j h1 h2 (Nat.le_of_ble_eq_true hb) hv
  have hwt : Region.wanted o (yielded ops (putAll vs head 0 a).tmps) = true := by
    unfold Region.wanted
    rw [hg]
    simp only [hy]
    rfl
  rw [if_pos hwt]
  exact h vs x _ (FrB.self vs head a) hd
end Go.Rg
namespace Go.Proofs.Ytlcopiepcpangaa
open Go.RowKit Go.Rg
theorem comes_load_box {P : Program} {o : Oper} {F : Act} {W : World} (ty : TypeId) (x : Operand) (ho : o.op = .load ty x) {N b : Nat} {cs : List Value} (h : Box N cs b W) (hx : F.eval x = .pointer (some ⟨b, 0, none⟩)) {d : TypeDesc}
    (hu : P.underlying ty = some d) (hd : d.isRow = true) (hi : (P.info? ty).map (·.size) = some cs.length) : comes P o F W (fun v w' => Ext W w' ∧ v = .agg cs.toArray) := by
  unfold comes execOp
  simp only [ho, hx, Instr.loadAt, Instr.sureAddr, Sem.run_bind, Sem.run_pure, Result.andThen_ok, run_loadVar_mid W b 0 ty cs d (Box.range h) hu hd hi, comesUpon_value]
  exact ⟨Ext.refl _, trivial⟩
theorem comes_add {d : Option Tmp} {x y : Operand} {pos : String} {after : Array Edge} {guard : Option (Nat × Bool)} {F : Act} {W : World} {a b : Int} (hx : F.eval x = .int .i64 a) (hy : F.eval y = .int .i64 b) (h : IntKind.i64.wrap (a + b) = a + b) :
    comes Try.prog { dst := d, op := .binOp .add 3 x y 3, type := 3, pos := pos, after := after, guard := guard } F W (fun v w' => Ext W w' ∧ v = .int .i64 (a + b)) := by
  simp only [comes, execOp, hx, hy]
  go_simp
  first | exact ⟨Ext.refl _, rfl⟩ | exact Ext.refl _
theorem comes_sub {d : Option Tmp} {x y : Operand} {pos : String} {after : Array Edge} {guard : Option (Nat × Bool)} {F : Act} {W : World} {a b : Int} (hx : F.eval x = .int .i64 a) (hy : F.eval y = .int .i64 b) (h : IntKind.i64.wrap (a - b) = a - b) :
    comes Try.prog { dst := d, op := .binOp .sub 3 x y 3, type := 3, pos := pos, after := after, guard := guard } F W (fun v w' => Ext W w' ∧ v = .int .i64 (a - b)) := by
  simp only [comes, execOp, hx, hy]
  go_simp
  first | exact ⟨Ext.refl _, rfl⟩ | exact Ext.refl _
theorem comes_mul {d : Option Tmp} {x y : Operand} {pos : String} {after : Array Edge} {guard : Option (Nat × Bool)} {F : Act} {W : World} {a b : Int} (hx : F.eval x = .int .i64 a) (hy : F.eval y = .int .i64 b) (h : IntKind.i64.wrap (a * b) = a * b) :
    comes Try.prog { dst := d, op := .binOp .mul 3 x y 3, type := 3, pos := pos, after := after, guard := guard } F W (fun v w' => Ext W w' ∧ v = .int .i64 (a * b)) := by
  simp only [comes, execOp, hx, hy]
  go_simp
  first | exact ⟨Ext.refl _, rfl⟩ | exact Ext.refl _
end Go.Proofs.Ytlcopiepcpangaa
