/- SHA-256: states, padding, digests. -/
import Derived.Test.YtbdahlfakinagaaDoorD5
set_option linter.unusedVariables false
namespace Go.Proofs.YtbdahlfakinagaaDoor
open Go.RowKit Go.Rg

def run (s : List W32) (bs : List Int) : Nat → List W32
  | 0 => s
  | k + 1 => blk (run s bs k) ((bs.drop (64 * k)).take 64)
def stOf (bs : List Int) : List W32 := run IL bs (bs.length / 64)
def tlOf (bs : List Int) : List Int := bs.drop (64 * (bs.length / 64))
def outW (x : W32) : List Int := [((x >>> 24).toNat % 256 : Nat), ((x >>> 16).toNat % 256 : Nat), ((x >>> 8).toNat % 256 : Nat), (x.toNat % 256 : Nat)]
def outB (s : List W32) : List Int := s.flatMap outW
def padZ (n : Nat) : Nat := (119 - n % 64) % 64
def lenB (n : Nat) : List Int := (List.range 8).map fun i => ((8 * n / 2 ^ (56 - 8 * i) % 256 : Nat) : Int)
def padOf (n : Nat) : List Int := 128 :: (List.replicate (padZ n) 0 ++ lenB n)
def shaOf (bs : List Int) : List Int := outB (stOf (bs ++ padOf bs.length))
def digs : List UInt8 := [48, 49, 50, 51, 52, 53, 54, 55, 56, 57, 97, 98, 99, 100, 101, 102]
def hexOf (l : List Int) : List UInt8 := l.flatMap fun c => [digs.getD (c.toNat / 16) 0, digs.getD (c.toNat % 16) 0]
def hexS (l : List Int) : ByteArray := ⟨(hexOf l).toArray⟩
theorem run_len {s : List W32} (bs : List Int) (h : s.length = 8) : ∀ k, (run s bs k).length = 8
  | 0 => h
  | k + 1 => blk_len _ (run_len bs h k)
theorem stOf_len (bs : List Int) : (stOf bs).length = 8 := run_len bs rfl _
theorem sha_empty : hexOf (shaOf []) = "e3b0c44298fc1c149afbf4c8996fb92427ae41e4649b934ca495991b7852b855".toUTF8.data.toList := by decide +kernel
theorem sha_abc : hexOf (shaOf [97, 98, 99]) = "ba7816bf8f01cfea414140de5dae2223b00361a396177a9cb410ff61f20015ad".toUTF8.data.toList := by decide +kernel
end Go.Proofs.YtbdahlfakinagaaDoor
