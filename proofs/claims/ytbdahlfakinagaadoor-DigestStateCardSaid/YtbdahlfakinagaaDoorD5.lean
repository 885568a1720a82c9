/- SHA-256: the rounds. -/
import Derived.Test.YtbdahlfakinagaaDoorD3
set_option linter.unusedVariables false
namespace Go.Proofs.YtbdahlfakinagaaDoor
open Go.RowKit Go.Rg

def KL : List W32 := [0x428a2f98, 0x71374491, 0xb5c0fbcf, 0xe9b5dba5, 0x3956c25b, 0x59f111f1, 0x923f82a4, 0xab1c5ed5,
  0xd807aa98, 0x12835b01, 0x243185be, 0x550c7dc3, 0x72be5d74, 0x80deb1fe, 0x9bdc06a7, 0xc19bf174,
  0xe49b69c1, 0xefbe4786, 0x0fc19dc6, 0x240ca1cc, 0x2de92c6f, 0x4a7484aa, 0x5cb0a9dc, 0x76f988da,
  0x983e5152, 0xa831c66d, 0xb00327c8, 0xbf597fc7, 0xc6e00bf3, 0xd5a79147, 0x06ca6351, 0x14292967,
  0x27b70a85, 0x2e1b2138, 0x4d2c6dfc, 0x53380d13, 0x650a7354, 0x766a0abb, 0x81c2c92e, 0x92722c85,
  0xa2bfe8a1, 0xa81a664b, 0xc24b8b70, 0xc76c51a3, 0xd192e819, 0xd6990624, 0xf40e3585, 0x106aa070,
  0x19a4c116, 0x1e376c08, 0x2748774c, 0x34b0bcb5, 0x391c0cb3, 0x4ed8aa4a, 0x5b9cca4f, 0x682e6ff3,
  0x748f82ee, 0x78a5636f, 0x84c87814, 0x8cc70208, 0x90befffa, 0xa4506ceb, 0xbef9a3f7, 0xc67178f2]
def IL : List W32 := [0x6a09e667, 0xbb67ae85, 0x3c6ef372, 0xa54ff53a, 0x510e527f, 0x9b05688c, 0x1f83d9ab, 0x5be0cd19]
def bg1 (e : W32) : W32 := rr 6 e ^^^ rr 11 e ^^^ rr 25 e
def bg0 (a : W32) : W32 := rr 2 a ^^^ rr 13 a ^^^ rr 22 a
def chF (e f g : W32) : W32 := (e &&& f) ^^^ (~~~e &&& g)
def mjF (a b c : W32) : W32 := (a &&& b) ^^^ (a &&& c) ^^^ (b &&& c)
def t1F (e f g h kk ww : W32) : W32 := h + bg1 e + chF e f g + kk + ww
def rnd (kk ww : W32) : List W32 → List W32
  | [a, b, c, d, e, f, g, h] => [t1F e f g h kk ww + bg0 a + mjF a b c, a, b, c, d + t1F e f g h kk ww, e, f, g]
  | l => l
def rounds (ws s : List W32) : Nat → List W32
  | 0 => s
  | k + 1 => rnd (KL.getD k 0) (ws.getD k 0) (rounds ws s k)
theorem list8 {l : List W32} (h : l.length = 8) : ∃ a b c d e f g i : W32, l = [a, b, c, d, e, f, g, i] := by
  match l, h with
  | [a, b, c, d, e, f, g, i], _ => exact ⟨a, b, c, d, e, f, g, i, rfl⟩
theorem rnd_len {kk ww : W32} {l : List W32} (h : l.length = 8) : (rnd kk ww l).length = 8 := by
  obtain ⟨a, b, c, d, e, f, g, i, rfl⟩ := list8 h
  rfl
theorem rounds_len {ws s : List W32} (h : s.length = 8) : ∀ k, (rounds ws s k).length = 8
  | 0 => h
  | k + 1 => rnd_len (rounds_len h k)
def fin (rs s : List W32) : Nat → List W32
  | 0 => rs
  | k + 1 => (fin rs s k).set k ((fin rs s k).getD k 0 + s.getD k 0)
theorem fin_len (rs s : List W32) : ∀ k, (fin rs s k).length = rs.length
  | 0 => rfl
  | k + 1 => by rw [fin, List.length_set]; exact fin_len rs s k
/-- What a block does to a state. -/
def blk (s : List W32) (bs : List Int) : List W32 := fin (rounds (sched bs) s 64) s 8
theorem blk_len {s : List W32} (bs : List Int) (h : s.length = 8) : (blk s bs).length = 8 := by rw [blk, fin_len, rounds_len h]
/-- The package's variables. -/
structure Glob (w : World) : Prop where
  ini : ∀ k, k < 8 → w.cell? ⟨0, k, none⟩ = some (bw (IL.getD k 0))
  con : ∀ k, k < 64 → w.cell? ⟨1, k, none⟩ = some (bw (KL.getD k 0))
theorem Glob.ext {w w' : World} (h : Glob w) (e : Ext w w') : Glob w' := ⟨fun k hk => Ext.cell e (h.ini k hk), fun k hk => Ext.cell e (h.con k hk)⟩
def zero8 : List W32 := List.replicate 8 0
end Go.Proofs.YtbdahlfakinagaaDoor
