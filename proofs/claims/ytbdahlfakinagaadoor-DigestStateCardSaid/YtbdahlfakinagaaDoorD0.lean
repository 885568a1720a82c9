/- Words of 32 bits. -/
import Derived.Test.YtbdahlfakinagaaDoorRows
import Derived.WalkKit
import Derived.WalkSpells
import Derived.WalkLawsBesides
import Derived.Lib.Hide
import Derived.Laws.BitsLemmas
set_option linter.unusedVariables false
namespace Go.Proofs.YtbdahlfakinagaaDoor
open Go.RowKit

abbrev W32 := BitVec 32
abbrev bw (x : W32) : Value := .int .u32 (x.toNat : Int)
abbrev nw (n : Nat) : Value := .int .i64 (n : Int)
theorem ofI (x : W32) : BitVec.ofInt 32 (x.toNat : Int) = x := by
  rw [BitVec.ofInt_natCast, BitVec.ofNat_toNat, BitVec.setWidth_eq]
theorem wrapT (x : W32) : IntKind.u32.wrap (x.toNat : Int) = x.toNat := by
  rw [IntKind.wrap_u32]
  have := x.isLt
  omega
theorem b_xor (x y : W32) : bits .xor .u32 x.toNat y.toNat = ((x ^^^ y).toNat : Int) := by
  show IntKind.u32.wrap ((BitVec.ofInt 32 (x.toNat : Int) ^^^ BitVec.ofInt 32 (y.toNat : Int)).toNat : Int) = _
  rw [ofI, ofI, wrapT]
theorem b_and (x y : W32) : bits .and .u32 x.toNat y.toNat = ((x &&& y).toNat : Int) := by
  show IntKind.u32.wrap ((BitVec.ofInt 32 (x.toNat : Int) &&& BitVec.ofInt 32 (y.toNat : Int)).toNat : Int) = _
  rw [ofI, ofI, wrapT]
theorem b_or (x y : W32) : bits .or .u32 x.toNat y.toNat = ((x ||| y).toNat : Int) := by
  show IntKind.u32.wrap ((BitVec.ofInt 32 (x.toNat : Int) ||| BitVec.ofInt 32 (y.toNat : Int)).toNat : Int) = _
  rw [ofI, ofI, wrapT]
theorem b_add (x y : W32) : IntKind.u32.wrap ((x.toNat : Int) + y.toNat) = ((x + y).toNat : Int) := by
  rw [IntKind.wrap_u32, BitVec.toNat_add]
  omega
theorem b_shl (x : W32) (n : Nat) : IntKind.u32.wrap ((x.toNat : Int) * 2 ^ n) = ((x <<< n).toNat : Int) := by
  rw [IntKind.wrap_u32, BitVec.toNat_shiftLeft, Nat.shiftLeft_eq]
  simp
theorem b_shr (x : W32) (n : Nat) : (x.toNat : Int) / 2 ^ n = ((x >>> n).toNat : Int) := by
  rw [BitVec.toNat_ushiftRight, Nat.shiftRight_eq_div_pow]
  simp
/-- Turned to the right. -/
def rr (n : Nat) (x : W32) : W32 := (x >>> n) ||| (x <<< (32 - n))
end Go.Proofs.YtbdahlfakinagaaDoor
