/- Words for slices that are read: a slice value whose elements' cells hold a given list of values. -/
import Derived.Test.YtngokfaaaeikoaaRows
import Derived.WalkKit
import Derived.WalkSpells
import Derived.WalkLawsBesides
import Derived.Lib.Hide
namespace Go.Proofs.Ytngokfaaaeikoaa
open Go.RowKit

/-- The slice value '.slice A n c' reads as xs (elements of 'size' cells each) in w, and lies below block B. -/
def Row (w : World) (B size : Nat) (A : Option Addr) (n : Nat) (xs : List Value) : Prop :=
  xs.length = n * size ∧ (0 < n → ∃ b o, A = some ⟨b, o, none⟩ ∧ b < B ∧ ∀ j u, xs[j]? = some u → w.cell? ⟨b, o + j, none⟩ = some u)

section
variable {w w' : World} {B B' size n : Nat} {A : Option Addr} {xs : List Value}
theorem Row.nil : Row w B size A 0 [] := ⟨by simp, fun h => absurd h (by omega)⟩
theorem Row.len (h : Row w B 1 A n xs) : xs.length = n := by have := h.1; omega
theorem Row.keep (h : Row w B size A n xs) (hk : ∀ p : Addr, p.block < B → w'.cell? p = w.cell? p) : Row w' B size A n xs :=
  ⟨h.1, fun hn => by
    obtain ⟨b, o, e, hb, hc⟩ := h.2 hn
    exact ⟨b, o, e, hb, fun j u hu => (hk _ hb).trans (hc j u hu)⟩⟩
theorem Row.more (h : Row w B size A n xs) (hB : B ≤ B') : Row w B' size A n xs :=
  ⟨h.1, fun hn => by
    obtain ⟨b, o, e, hb, hc⟩ := h.2 hn
    exact ⟨b, o, e, by omega, hc⟩⟩
theorem Row.below (h : Row w B size A n xs) (hb : Below B w w') : Row w' B size A n xs := h.keep fun _ hp => hb.cell hp
theorem Row.drew (h : Row w B size A n xs) : Row w.drew B size A n xs := h
theorem Row.alloc (h : Row w B size A n xs) (hB : B ≤ w.heap.size) (o : Obj) : Row (w.alloc o) B size A n xs := h.keep fun p hp => World.cell?_alloc_lt w o p (by omega)
theorem Row.setCell (h : Row w B size A n xs) {p : Addr} (hB : B ≤ p.block) (u : Value) : Row (w.setCell p u) B size A n xs :=
  h.keep fun q hq => World.cell?_setCell_other w p q u (fun e => by subst e; omega)
end
end Go.Proofs.Ytngokfaaaeikoaa
