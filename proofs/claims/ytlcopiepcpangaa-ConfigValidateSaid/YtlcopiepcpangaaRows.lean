/-
  No cell of these rows narrows 'for every input' (looked for: loops, veiled, ifaces, maps, wideKeys, modest, calm, conditions, laid).
  DERIVED. THE GIVEN ROWS OF THIS SEAT. 3 by the template 'for every input the law returns true; each argument reads behind the call as it read before'; 0 by the template 'total and deterministic' (their statements: YtlcopiepcpangaaTotals.lean).
  GIVEN WITH THE SEED: the statements are not yours to turn. If you find one false, say at which input.
  Laid BY PROGRAM, IN A SANDBOX (cutbox-rows.mjs): the forced cells as the released guide's own fill.sh prints them over the translation 22f4f0df3b5f7094… (all of the seat's roots in one cut). By AI agents, Wed Nov 11 2026. No macro, syntax, notation, axiom, sorry.
-/
import Derived.Test.YtlcopiepcpangaaChecked
import GoSem.Claim
import GoSem.ClaimJoined
import GoSem.ClaimMapViews
import Derived.JoinedTies
import Derived.KernelRfl
namespace Go.Proofs.Ytlcopiepcpangaa
/- THE CELL 'sum', in the pinned program and in every row, IS THE sha256 OF THE DUMP (.gsa) THAT YtlcopiepcpangaaProg.lean LOADS. Nothing in Lean hashes anything: it is a label: what it is worth is what the hold of that sum in a sandbox is worth. -/
noncomputable def Try.pinned : Pinned := { name := "ytlcopiepcpangaa", sum := "22f4f0df3b5f7094256ba6c7f25ac133ea870faea6e3d0a59a5ed1eb04dd97ad", checked := Try.checked }
namespace Rows
def none {H : Type} : Left H := { results := [], args := [] }

/-- 'canarylaw28.ConfigValidate': WHATEVER THE INPUT: true; the input reads as it did. -/
def configValidateSpec : ChangeSpec := { name := "configValidate", fn := fun _ => fun
  | [d1, d2, d3, d4, d5, d6] => { results := [.lit (.bool true)], args := [d1, d2, d3, d4, d5, d6] }
  | _ => none }
def configValidateRow : OpenClaim := { program := "ytlcopiepcpangaa", sum := "22f4f0df3b5f7094256ba6c7f25ac133ea870faea6e3d0a59a5ed1eb04dd97ad", func := "canary/canarylaw28.ConfigValidate", spec := "configValidate", inPlace := ["internal/bytealg.IndexByteString"], apart := false }
def ConfigValidateSaid : Prop := configValidateRow.holds Try.pinned (OpenSpec.ofChange configValidateSpec)

/-- ITS FALSE NEIGHBOUR: 'it returns false'. Refute it at one input. -/
def configValidateWrong : ChangeSpec := { name := "configValidate", fn := fun _ => fun
  | [d1, d2, d3, d4, d5, d6] => { results := [.lit (.bool false)], args := [d1, d2, d3, d4, d5, d6] }
  | _ => none }
def ConfigValidateWrongFalsely : Prop := configValidateRow.holds Try.pinned (OpenSpec.ofChange configValidateWrong)

/-- 'canarylaw28.ConfigBound': WHATEVER THE INPUT: true; the input reads as it did. -/
def configBoundSpec : ChangeSpec := { name := "configBound", fn := fun _ => fun
  | [d1, d2, d3] => { results := [.lit (.bool true)], args := [d1, d2, d3] }
  | _ => none }
def configBoundRow : OpenClaim := { program := "ytlcopiepcpangaa", sum := "22f4f0df3b5f7094256ba6c7f25ac133ea870faea6e3d0a59a5ed1eb04dd97ad", func := "canary/canarylaw28.ConfigBound", spec := "configBound", inPlace := ["internal/bytealg.IndexByteString"], apart := false }
def ConfigBoundSaid : Prop := configBoundRow.holds Try.pinned (OpenSpec.ofChange configBoundSpec)

/-- ITS FALSE NEIGHBOUR: 'it returns false'. Refute it at one input. -/
def configBoundWrong : ChangeSpec := { name := "configBound", fn := fun _ => fun
  | [d1, d2, d3] => { results := [.lit (.bool false)], args := [d1, d2, d3] }
  | _ => none }
def ConfigBoundWrongFalsely : Prop := configBoundRow.holds Try.pinned (OpenSpec.ofChange configBoundWrong)

/-- 'canarylaw28.ConfigRises': WHATEVER THE INPUT: true; the input reads as it did. -/
def configRisesSpec : ChangeSpec := { name := "configRises", fn := fun _ => fun
  | [d1, d2, d3] => { results := [.lit (.bool true)], args := [d1, d2, d3] }
  | _ => none }
def configRisesRow : OpenClaim := { program := "ytlcopiepcpangaa", sum := "22f4f0df3b5f7094256ba6c7f25ac133ea870faea6e3d0a59a5ed1eb04dd97ad", func := "canary/canarylaw28.ConfigRises", spec := "configRises", inPlace := ["internal/bytealg.IndexByteString"], apart := false }
def ConfigRisesSaid : Prop := configRisesRow.holds Try.pinned (OpenSpec.ofChange configRisesSpec)

/-- ITS FALSE NEIGHBOUR: 'it returns false'. Refute it at one input. -/
def configRisesWrong : ChangeSpec := { name := "configRises", fn := fun _ => fun
  | [d1, d2, d3] => { results := [.lit (.bool false)], args := [d1, d2, d3] }
  | _ => none }
def ConfigRisesWrongFalsely : Prop := configRisesRow.holds Try.pinned (OpenSpec.ofChange configRisesWrong)

/- THE SECOND FORM. 'bulk': how many values and letters a reading holds, each counted each time it is reached (what is shared counts as often as it is met; a slice's spare places count too). A statement '..UptoSaid' is the law's where the arguments, and the package variables that the reading takes, are together of bulk at most 1048576: NARROWER than '..Said'. Prove '..Said' where nothing that the law and all that it calls make is longer than what came in: it says more and counts as full. Else prove '..UptoSaid'. A law counts once. -/
mutual
def uptoBulk {H : Type} : DataW H → Nat
  | .lit (.string bytes) => bytes.length + 1
  | .lit _ => 1
  | .nil => 1
  | .ptr d => uptoBulk d + 1
  | .slice elems spare => uptoBulkAll elems + uptoBulkAll spare + 1
  | .agg parts => uptoBulkAll parts + 1
  | .iface _ d => uptoBulk d + 1
  | .map entries => uptoBulkEntries entries + 1
  | .held _ => 1
def uptoBulkAll {H : Type} : List (DataW H) → Nat
  | [] => 0
  | d :: r => uptoBulk d + uptoBulkAll r
def uptoBulkEntries {H : Type} : List (Lit × DataW H) → Nat
  | [] => 0
  | x :: r => uptoBulkEntry x + uptoBulkEntries r
def uptoBulkEntry {H : Type} : Lit × DataW H → Nat
  | (.string bytes, d) => bytes.length + uptoBulk d + 1
  | (_, d) => uptoBulk d + 1
 end
def uptoSmall : (H : Type) → List (DataW H) → Bool := fun _ ds => decide (uptoBulkAll ds ≤ 1048576)
def OpenSpec.upto (s : _root_.Go.ChangeSpec) : _root_.Go.OpenSpec := { _root_.Go.OpenSpec.ofChange s with cond := some uptoSmall }

/-- 'canarylaw28.ConfigValidate', WHERE WHAT IT READS IS OF BULK AT MOST 1048576: true; the input reads as it did. -/
def configValidateUptoRow : OpenClaim := { program := "ytlcopiepcpangaa", sum := "22f4f0df3b5f7094256ba6c7f25ac133ea870faea6e3d0a59a5ed1eb04dd97ad", func := "canary/canarylaw28.ConfigValidate", spec := "configValidate", inPlace := ["internal/bytealg.IndexByteString"], apart := false, narrowed := true }
def ConfigValidateUptoSaid : Prop := configValidateUptoRow.holds Try.pinned (OpenSpec.upto configValidateSpec)

/-- 'canarylaw28.ConfigBound', WHERE WHAT IT READS IS OF BULK AT MOST 1048576: true; the input reads as it did. -/
def configBoundUptoRow : OpenClaim := { program := "ytlcopiepcpangaa", sum := "22f4f0df3b5f7094256ba6c7f25ac133ea870faea6e3d0a59a5ed1eb04dd97ad", func := "canary/canarylaw28.ConfigBound", spec := "configBound", inPlace := ["internal/bytealg.IndexByteString"], apart := false, narrowed := true }
def ConfigBoundUptoSaid : Prop := configBoundUptoRow.holds Try.pinned (OpenSpec.upto configBoundSpec)

/-- 'canarylaw28.ConfigRises', WHERE WHAT IT READS IS OF BULK AT MOST 1048576: true; the input reads as it did. -/
def configRisesUptoRow : OpenClaim := { program := "ytlcopiepcpangaa", sum := "22f4f0df3b5f7094256ba6c7f25ac133ea870faea6e3d0a59a5ed1eb04dd97ad", func := "canary/canarylaw28.ConfigRises", spec := "configRises", inPlace := ["internal/bytealg.IndexByteString"], apart := false, narrowed := true }
def ConfigRisesUptoSaid : Prop := configRisesUptoRow.holds Try.pinned (OpenSpec.upto configRisesSpec)

end Rows
end Go.Proofs.Ytlcopiepcpangaa
