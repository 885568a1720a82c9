/-
  No cell of these rows narrows 'for every input' (looked for: loops, veiled, ifaces, maps, wideKeys, modest, calm, conditions, laid).
  DERIVED. THE GIVEN ROWS OF THIS SEAT. 3 by the template 'for every input the law returns true; each argument reads behind the call as it read before'; 0 by the template 'total and deterministic' (their statements: YtphbmibgnnobcaaTotals.lean).
  GIVEN WITH THE SEED: the statements are not yours to turn. If you find one false, say at which input.
  Laid BY PROGRAM, IN A SANDBOX (cutbox-rows.mjs): the forced cells as the released guide's own fill.sh prints them over the translation 87e671e153b1fb5c… (all of the seat's roots in one cut). By AI agents, Wed Nov 11 2026. No macro, syntax, notation, axiom, sorry.
-/
import Derived.Test.YtphbmibgnnobcaaChecked
import GoSem.Claim
import GoSem.ClaimJoined
import GoSem.ClaimMapViews
import Derived.JoinedTies
import Derived.KernelRfl
namespace Go.Proofs.Ytphbmibgnnobcaa
/- THE CELL 'sum', in the pinned program and in every row, IS THE sha256 OF THE DUMP (.gsa) THAT YtphbmibgnnobcaaProg.lean LOADS. Nothing in Lean hashes anything: it is a label: what it is worth is what the hold of that sum in a sandbox is worth. -/
noncomputable def Try.pinned : Pinned := { name := "ytphbmibgnnobcaa", sum := "87e671e153b1fb5c005c8878a8c158040ec4018c66b405c553b7d4527f37ff31", checked := Try.checked }
namespace Rows
def none {H : Type} : Left H := { results := [], args := [] }

/-- 'canarylaw24.PortClass': WHATEVER THE INPUT: true; the input reads as it did. -/
def portClassSpec : ChangeSpec := { name := "portClass", fn := fun _ => fun
  | [d1, d2, d3, d4] => { results := [.lit (.bool true)], args := [d1, d2, d3, d4] }
  | _ => none }
def portClassRow : OpenClaim := { program := "ytphbmibgnnobcaa", sum := "87e671e153b1fb5c005c8878a8c158040ec4018c66b405c553b7d4527f37ff31", func := "canary/canarylaw24.PortClass", spec := "portClass", apart := false }
def PortClassSaid : Prop := portClassRow.holds Try.pinned (OpenSpec.ofChange portClassSpec)

/-- ITS FALSE NEIGHBOUR: 'it returns false'. Refute it at one input. -/
def portClassWrong : ChangeSpec := { name := "portClass", fn := fun _ => fun
  | [d1, d2, d3, d4] => { results := [.lit (.bool false)], args := [d1, d2, d3, d4] }
  | _ => none }
def PortClassWrongFalsely : Prop := portClassRow.holds Try.pinned (OpenSpec.ofChange portClassWrong)

/-- 'canarylaw24.PortOrder': WHATEVER THE INPUT: true; the input reads as it did. -/
def portOrderSpec : ChangeSpec := { name := "portOrder", fn := fun _ => fun
  | [d1, d2] => { results := [.lit (.bool true)], args := [d1, d2] }
  | _ => none }
def portOrderRow : OpenClaim := { program := "ytphbmibgnnobcaa", sum := "87e671e153b1fb5c005c8878a8c158040ec4018c66b405c553b7d4527f37ff31", func := "canary/canarylaw24.PortOrder", spec := "portOrder", apart := false }
def PortOrderSaid : Prop := portOrderRow.holds Try.pinned (OpenSpec.ofChange portOrderSpec)

/-- ITS FALSE NEIGHBOUR: 'it returns false'. Refute it at one input. -/
def portOrderWrong : ChangeSpec := { name := "portOrder", fn := fun _ => fun
  | [d1, d2] => { results := [.lit (.bool false)], args := [d1, d2] }
  | _ => none }
def PortOrderWrongFalsely : Prop := portOrderRow.holds Try.pinned (OpenSpec.ofChange portOrderWrong)

/-- 'canarylaw24.PortUse': WHATEVER THE INPUT: true; the input reads as it did. -/
def portUseSpec : ChangeSpec := { name := "portUse", fn := fun _ => fun
  | [d1, d2, d3, d4, d5, d6, d7, d8] => { results := [.lit (.bool true)], args := [d1, d2, d3, d4, d5, d6, d7, d8] }
  | _ => none }
def portUseRow : OpenClaim := { program := "ytphbmibgnnobcaa", sum := "87e671e153b1fb5c005c8878a8c158040ec4018c66b405c553b7d4527f37ff31", func := "canary/canarylaw24.PortUse", spec := "portUse", apart := false }
def PortUseSaid : Prop := portUseRow.holds Try.pinned (OpenSpec.ofChange portUseSpec)

/-- ITS FALSE NEIGHBOUR: 'it returns false'. Refute it at one input. -/
def portUseWrong : ChangeSpec := { name := "portUse", fn := fun _ => fun
  | [d1, d2, d3, d4, d5, d6, d7, d8] => { results := [.lit (.bool false)], args := [d1, d2, d3, d4, d5, d6, d7, d8] }
  | _ => none }
def PortUseWrongFalsely : Prop := portUseRow.holds Try.pinned (OpenSpec.ofChange portUseWrong)

/- THE SECOND FORM. 'bulk': how many values and letters a reading holds, each counted each time it is reached (what is shared counts as often as it is met; a slice's spare places count too). A statement '..UptoSaid' is the law's where the arguments, and the package variables that the reading takes, are together of bulk at most 1048576: NARROWER than '..Said'. Prove '..Said' where nothing that the law and all that it calls make is longer than what came in: it says more and counts as full. Else prove '..UptoSaid'. A law counts once. -/
mutual
def uptoBulk {H : Type} : DataW H → Nat
  | .lit (.string bytes) => bytes.length + 1
  | .lit _ => 1
  | .nil => 1
  | .ptr d => uptoBulk d + 1
  | .slice elems spare => uptoBulkAll elems + uptoBulkAll spare + 1
  | .agg parts => uptoBulkAll parts + 1
  | .iface _ d => uptoBulk d + 1
  | .map entries => uptoBulkEntries entries + 1
  | .held _ => 1
def uptoBulkAll {H : Type} : List (DataW H) → Nat
  | [] => 0
  | d :: r => uptoBulk d + uptoBulkAll r
def uptoBulkEntries {H : Type} : List (Lit × DataW H) → Nat
  | [] => 0
  | x :: r => uptoBulkEntry x + uptoBulkEntries r
def uptoBulkEntry {H : Type} : Lit × DataW H → Nat
  | (.string bytes, d) => bytes.length + uptoBulk d + 1
  | (_, d) => uptoBulk d + 1
 end
def uptoSmall : (H : Type) → List (DataW H) → Bool := fun _ ds => decide (uptoBulkAll ds ≤ 1048576)
def OpenSpec.upto (s : _root_.Go.ChangeSpec) : _root_.Go.OpenSpec := { _root_.Go.OpenSpec.ofChange s with cond := some uptoSmall }

/-- 'canarylaw24.PortClass', WHERE WHAT IT READS IS OF BULK AT MOST 1048576: true; the input reads as it did. -/
def portClassUptoRow : OpenClaim := { program := "ytphbmibgnnobcaa", sum := "87e671e153b1fb5c005c8878a8c158040ec4018c66b405c553b7d4527f37ff31", func := "canary/canarylaw24.PortClass", spec := "portClass", apart := false, narrowed := true }
def PortClassUptoSaid : Prop := portClassUptoRow.holds Try.pinned (OpenSpec.upto portClassSpec)

/-- 'canarylaw24.PortOrder', WHERE WHAT IT READS IS OF BULK AT MOST 1048576: true; the input reads as it did. -/
def portOrderUptoRow : OpenClaim := { program := "ytphbmibgnnobcaa", sum := "87e671e153b1fb5c005c8878a8c158040ec4018c66b405c553b7d4527f37ff31", func := "canary/canarylaw24.PortOrder", spec := "portOrder", apart := false, narrowed := true }
def PortOrderUptoSaid : Prop := portOrderUptoRow.holds Try.pinned (OpenSpec.upto portOrderSpec)

/-- 'canarylaw24.PortUse', WHERE WHAT IT READS IS OF BULK AT MOST 1048576: true; the input reads as it did. -/
def portUseUptoRow : OpenClaim := { program := "ytphbmibgnnobcaa", sum := "87e671e153b1fb5c005c8878a8c158040ec4018c66b405c553b7d4527f37ff31", func := "canary/canarylaw24.PortUse", spec := "portUse", apart := false, narrowed := true }
def PortUseUptoSaid : Prop := portUseUptoRow.holds Try.pinned (OpenSpec.upto portUseSpec)

end Rows
end Go.Proofs.Ytphbmibgnnobcaa
