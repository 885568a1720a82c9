/-
  NARROWER THAN 'FOR EVERY INPUT', by the rows' own cells (each row's printed sentence says how): DigestOf: laid · DigestPieces: laid · DigestState: laid · DigestKeeps: laid · DigestStates: laid.
  DERIVED. THE GIVEN ROWS OF THIS SEAT. 5 by the template 'for every input the law returns true; each argument reads behind the call as it read before'; 0 by the template 'total and deterministic' (their statements: YtbdahlfakinagaaDoorTotals.lean).
  GIVEN WITH THE SEED: the statements are not yours to turn. If you find one false, say at which input.
  Laid BY PROGRAM, IN A SANDBOX (cutbox-rows.mjs): the forced cells as the released guide's own fill.sh prints them over the translation fd94b1b2b2f0f4d1… (all of the seat's roots in one cut). By AI agents, Wed Nov 11 2026. No macro, syntax, notation, axiom, sorry.
-/
import Derived.Test.YtbdahlfakinagaaDoorChecked
import GoSem.Claim
import GoSem.ClaimJoined
import GoSem.ClaimMapViews
import Derived.JoinedTies
import Derived.KernelRfl
namespace Go.Proofs.YtbdahlfakinagaaDoor
/- THE CELL 'sum', in the pinned program and in every row, IS THE sha256 OF THE DUMP (.gsa) THAT YtbdahlfakinagaaDoorProg.lean LOADS. Nothing in Lean hashes anything: it is a label: what it is worth is what the hold of that sum in a sandbox is worth. -/
noncomputable def Tryd.pinned : Pinned := { name := "ytbdahlfakinagaadoor", sum := "fd94b1b2b2f0f4d105026aaa959bc8d324856df560d37b90964b2443f34ca34d", checked := Tryd.checked }
namespace Rows
def none {H : Type} : Left H := { results := [], args := [] }

/- WHAT THE LISTED PACKAGE-LEVEL VARIABLES READ AS WHEN THE CALL BEGINS. Each datum BY PROGRAM (the guide's laid-datum.mjs) off the statement by which the dump's own 'gosem.cut.vars' lays the variable. In a bare row this is a premise. The card (YtbdahlfakinagaaDoorCards.lean) ties it to the program's text. -/
def laid_canary_digest_initial {H : Type} : DataW H := .agg [.lit (.int .u32 1779033703), .lit (.int .u32 3144134277), .lit (.int .u32 1013904242), .lit (.int .u32 2773480762), .lit (.int .u32 1359893119), .lit (.int .u32 2600822924), .lit (.int .u32 528734635), .lit (.int .u32 1541459225)]
def laid_canary_digest_constants {H : Type} : DataW H := .agg [.lit (.int .u32 1116352408), .lit (.int .u32 1899447441), .lit (.int .u32 3049323471), .lit (.int .u32 3921009573), .lit (.int .u32 961987163), .lit (.int .u32 1508970993), .lit (.int .u32 2453635748), .lit (.int .u32 2870763221), .lit (.int .u32 3624381080), .lit (.int .u32 310598401), .lit (.int .u32 607225278), .lit (.int .u32 1426881987), .lit (.int .u32 1925078388), .lit (.int .u32 2162078206), .lit (.int .u32 2614888103), .lit (.int .u32 3248222580), .lit (.int .u32 3835390401), .lit (.int .u32 4022224774), .lit (.int .u32 264347078), .lit (.int .u32 604807628), .lit (.int .u32 770255983), .lit (.int .u32 1249150122), .lit (.int .u32 1555081692), .lit (.int .u32 1996064986), .lit (.int .u32 2554220882), .lit (.int .u32 2821834349), .lit (.int .u32 2952996808), .lit (.int .u32 3210313671), .lit (.int .u32 3336571891), .lit (.int .u32 3584528711), .lit (.int .u32 113926993), .lit (.int .u32 338241895), .lit (.int .u32 666307205), .lit (.int .u32 773529912), .lit (.int .u32 1294757372), .lit (.int .u32 1396182291), .lit (.int .u32 1695183700), .lit (.int .u32 1986661051), .lit (.int .u32 2177026350), .lit (.int .u32 2456956037), .lit (.int .u32 2730485921), .lit (.int .u32 2820302411), .lit (.int .u32 3259730800), .lit (.int .u32 3345764771), .lit (.int .u32 3516065817), .lit (.int .u32 3600352804), .lit (.int .u32 4094571909), .lit (.int .u32 275423344), .lit (.int .u32 430227734), .lit (.int .u32 506948616), .lit (.int .u32 659060556), .lit (.int .u32 883997877), .lit (.int .u32 958139571), .lit (.int .u32 1322822218), .lit (.int .u32 1537002063), .lit (.int .u32 1747873779), .lit (.int .u32 1955562222), .lit (.int .u32 2024104815), .lit (.int .u32 2227730452), .lit (.int .u32 2361852424), .lit (.int .u32 2428436474), .lit (.int .u32 2756734187), .lit (.int .u32 3204031479), .lit (.int .u32 3329325298)]

/-- 'canarylaw04.DigestOf': WHATEVER THE INPUT: true; the input reads as it did. -/
def digestOfSpec : ChangeSpec := { name := "digestOf", fn := fun _ => fun
  | [d1, d2, d3] => { results := [.lit (.bool true)], args := [d1, d2, d3] }
  | _ => none }
def digestOfRow : OpenClaim := { program := "ytbdahlfakinagaadoor", sum := "fd94b1b2b2f0f4d105026aaa959bc8d324856df560d37b90964b2443f34ca34d", func := "canary/canarylaw04.DigestOf", spec := "digestOf", named := ["canary/digest.initial", "canary/digest.constants"], apart := false, laid := [("canary/digest.initial", laid_canary_digest_initial), ("canary/digest.constants", laid_canary_digest_constants)] }
def DigestOfSaid : Prop := digestOfRow.holds Tryd.pinned (OpenSpec.ofChange digestOfSpec)

/-- ITS FALSE NEIGHBOUR: 'it returns false'. Refute it at one input. -/
def digestOfWrong : ChangeSpec := { name := "digestOf", fn := fun _ => fun
  | [d1, d2, d3] => { results := [.lit (.bool false)], args := [d1, d2, d3] }
  | _ => none }
def DigestOfWrongFalsely : Prop := digestOfRow.holds Tryd.pinned (OpenSpec.ofChange digestOfWrong)

/-- 'canarylaw04.DigestPieces': WHATEVER THE INPUT: true; the input reads as it did. -/
def digestPiecesSpec : ChangeSpec := { name := "digestPieces", fn := fun _ => fun
  | [d] => { results := [.lit (.bool true)], args := [d] }
  | _ => none }
def digestPiecesRow : OpenClaim := { program := "ytbdahlfakinagaadoor", sum := "fd94b1b2b2f0f4d105026aaa959bc8d324856df560d37b90964b2443f34ca34d", func := "canary/canarylaw04.DigestPieces", spec := "digestPieces", named := ["canary/digest.initial", "canary/digest.constants"], apart := false, laid := [("canary/digest.initial", laid_canary_digest_initial), ("canary/digest.constants", laid_canary_digest_constants)] }
def DigestPiecesSaid : Prop := digestPiecesRow.holds Tryd.pinned (OpenSpec.ofChange digestPiecesSpec)

/-- ITS FALSE NEIGHBOUR: 'it returns false'. Refute it at one input. -/
def digestPiecesWrong : ChangeSpec := { name := "digestPieces", fn := fun _ => fun
  | [d] => { results := [.lit (.bool false)], args := [d] }
  | _ => none }
def DigestPiecesWrongFalsely : Prop := digestPiecesRow.holds Tryd.pinned (OpenSpec.ofChange digestPiecesWrong)

/-- 'canarylaw04.DigestState': WHATEVER THE INPUT: true; the input reads as it did. -/
def digestStateSpec : ChangeSpec := { name := "digestState", fn := fun _ => fun
  | [d1, d2] => { results := [.lit (.bool true)], args := [d1, d2] }
  | _ => none }
def digestStateRow : OpenClaim := { program := "ytbdahlfakinagaadoor", sum := "fd94b1b2b2f0f4d105026aaa959bc8d324856df560d37b90964b2443f34ca34d", func := "canary/canarylaw04.DigestState", spec := "digestState", named := ["canary/digest.initial", "canary/digest.constants"], apart := false, laid := [("canary/digest.initial", laid_canary_digest_initial), ("canary/digest.constants", laid_canary_digest_constants)] }
def DigestStateSaid : Prop := digestStateRow.holds Tryd.pinned (OpenSpec.ofChange digestStateSpec)

/-- ITS FALSE NEIGHBOUR: 'it returns false'. Refute it at one input. -/
def digestStateWrong : ChangeSpec := { name := "digestState", fn := fun _ => fun
  | [d1, d2] => { results := [.lit (.bool false)], args := [d1, d2] }
  | _ => none }
def DigestStateWrongFalsely : Prop := digestStateRow.holds Tryd.pinned (OpenSpec.ofChange digestStateWrong)

/-- 'canarylaw04.DigestKeeps': WHATEVER THE INPUT: true; the input reads as it did. -/
def digestKeepsSpec : ChangeSpec := { name := "digestKeeps", fn := fun _ => fun
  | [d1, d2] => { results := [.lit (.bool true)], args := [d1, d2] }
  | _ => none }
def digestKeepsRow : OpenClaim := { program := "ytbdahlfakinagaadoor", sum := "fd94b1b2b2f0f4d105026aaa959bc8d324856df560d37b90964b2443f34ca34d", func := "canary/canarylaw04.DigestKeeps", spec := "digestKeeps", named := ["canary/digest.initial", "canary/digest.constants"], apart := false, laid := [("canary/digest.initial", laid_canary_digest_initial), ("canary/digest.constants", laid_canary_digest_constants)] }
def DigestKeepsSaid : Prop := digestKeepsRow.holds Tryd.pinned (OpenSpec.ofChange digestKeepsSpec)

/-- ITS FALSE NEIGHBOUR: 'it returns false'. Refute it at one input. -/
def digestKeepsWrong : ChangeSpec := { name := "digestKeeps", fn := fun _ => fun
  | [d1, d2] => { results := [.lit (.bool false)], args := [d1, d2] }
  | _ => none }
def DigestKeepsWrongFalsely : Prop := digestKeepsRow.holds Tryd.pinned (OpenSpec.ofChange digestKeepsWrong)

/-- 'canarylaw04.DigestStates': WHATEVER THE INPUT: true; the input reads as it did. -/
def digestStatesSpec : ChangeSpec := { name := "digestStates", fn := fun _ => fun
  | [d1, d2, d3] => { results := [.lit (.bool true)], args := [d1, d2, d3] }
  | _ => none }
def digestStatesRow : OpenClaim := { program := "ytbdahlfakinagaadoor", sum := "fd94b1b2b2f0f4d105026aaa959bc8d324856df560d37b90964b2443f34ca34d", func := "canary/canarylaw04.DigestStates", spec := "digestStates", named := ["canary/digest.initial", "canary/digest.constants"], apart := false, laid := [("canary/digest.initial", laid_canary_digest_initial), ("canary/digest.constants", laid_canary_digest_constants)] }
def DigestStatesSaid : Prop := digestStatesRow.holds Tryd.pinned (OpenSpec.ofChange digestStatesSpec)

/-- ITS FALSE NEIGHBOUR: 'it returns false'. Refute it at one input. -/
def digestStatesWrong : ChangeSpec := { name := "digestStates", fn := fun _ => fun
  | [d1, d2, d3] => { results := [.lit (.bool false)], args := [d1, d2, d3] }
  | _ => none }
def DigestStatesWrongFalsely : Prop := digestStatesRow.holds Tryd.pinned (OpenSpec.ofChange digestStatesWrong)

/- THE SECOND FORM. 'bulk': how many values and letters a reading holds, each counted each time it is reached (what is shared counts as often as it is met; a slice's spare places count too). A statement '..UptoSaid' is the law's where the arguments, and the package variables that the reading takes, are together of bulk at most 1048576: NARROWER than '..Said'. Prove '..Said' where nothing that the law and all that it calls make is longer than what came in: it says more and counts as full. Else prove '..UptoSaid'. A law counts once. -/
mutual
def uptoBulk {H : Type} : DataW H → Nat
  | .lit (.string bytes) => bytes.length + 1
  | .lit _ => 1
  | .nil => 1
  | .ptr d => uptoBulk d + 1
  | .slice elems spare => uptoBulkAll elems + uptoBulkAll spare + 1
  | .agg parts => uptoBulkAll parts + 1
  | .iface _ d => uptoBulk d + 1
  | .map entries => uptoBulkEntries entries + 1
  | .held _ => 1
def uptoBulkAll {H : Type} : List (DataW H) → Nat
  | [] => 0
  | d :: r => uptoBulk d + uptoBulkAll r
def uptoBulkEntries {H : Type} : List (Lit × DataW H) → Nat
  | [] => 0
  | x :: r => uptoBulkEntry x + uptoBulkEntries r
def uptoBulkEntry {H : Type} : Lit × DataW H → Nat
  | (.string bytes, d) => bytes.length + uptoBulk d + 1
  | (_, d) => uptoBulk d + 1
 end
def uptoSmall : (H : Type) → List (DataW H) → Bool := fun _ ds => decide (uptoBulkAll ds ≤ 1048576)
def OpenSpec.upto (s : _root_.Go.ChangeSpec) : _root_.Go.OpenSpec := { _root_.Go.OpenSpec.ofChange s with cond := some uptoSmall }

/-- 'canarylaw04.DigestOf', WHERE WHAT IT READS IS OF BULK AT MOST 1048576: true; the input reads as it did. -/
def digestOfUptoRow : OpenClaim := { program := "ytbdahlfakinagaadoor", sum := "fd94b1b2b2f0f4d105026aaa959bc8d324856df560d37b90964b2443f34ca34d", func := "canary/canarylaw04.DigestOf", spec := "digestOf", named := ["canary/digest.initial", "canary/digest.constants"], apart := false, laid := [("canary/digest.initial", laid_canary_digest_initial), ("canary/digest.constants", laid_canary_digest_constants)], narrowed := true }
def DigestOfUptoSaid : Prop := digestOfUptoRow.holds Tryd.pinned (OpenSpec.upto digestOfSpec)

/-- 'canarylaw04.DigestPieces', WHERE WHAT IT READS IS OF BULK AT MOST 1048576: true; the input reads as it did. -/
def digestPiecesUptoRow : OpenClaim := { program := "ytbdahlfakinagaadoor", sum := "fd94b1b2b2f0f4d105026aaa959bc8d324856df560d37b90964b2443f34ca34d", func := "canary/canarylaw04.DigestPieces", spec := "digestPieces", named := ["canary/digest.initial", "canary/digest.constants"], apart := false, laid := [("canary/digest.initial", laid_canary_digest_initial), ("canary/digest.constants", laid_canary_digest_constants)], narrowed := true }
def DigestPiecesUptoSaid : Prop := digestPiecesUptoRow.holds Tryd.pinned (OpenSpec.upto digestPiecesSpec)

/-- 'canarylaw04.DigestState', WHERE WHAT IT READS IS OF BULK AT MOST 1048576: true; the input reads as it did. -/
def digestStateUptoRow : OpenClaim := { program := "ytbdahlfakinagaadoor", sum := "fd94b1b2b2f0f4d105026aaa959bc8d324856df560d37b90964b2443f34ca34d", func := "canary/canarylaw04.DigestState", spec := "digestState", named := ["canary/digest.initial", "canary/digest.constants"], apart := false, laid := [("canary/digest.initial", laid_canary_digest_initial), ("canary/digest.constants", laid_canary_digest_constants)], narrowed := true }
def DigestStateUptoSaid : Prop := digestStateUptoRow.holds Tryd.pinned (OpenSpec.upto digestStateSpec)

/-- 'canarylaw04.DigestKeeps', WHERE WHAT IT READS IS OF BULK AT MOST 1048576: true; the input reads as it did. -/
def digestKeepsUptoRow : OpenClaim := { program := "ytbdahlfakinagaadoor", sum := "fd94b1b2b2f0f4d105026aaa959bc8d324856df560d37b90964b2443f34ca34d", func := "canary/canarylaw04.DigestKeeps", spec := "digestKeeps", named := ["canary/digest.initial", "canary/digest.constants"], apart := false, laid := [("canary/digest.initial", laid_canary_digest_initial), ("canary/digest.constants", laid_canary_digest_constants)], narrowed := true }
def DigestKeepsUptoSaid : Prop := digestKeepsUptoRow.holds Tryd.pinned (OpenSpec.upto digestKeepsSpec)

/-- 'canarylaw04.DigestStates', WHERE WHAT IT READS IS OF BULK AT MOST 1048576: true; the input reads as it did. -/
def digestStatesUptoRow : OpenClaim := { program := "ytbdahlfakinagaadoor", sum := "fd94b1b2b2f0f4d105026aaa959bc8d324856df560d37b90964b2443f34ca34d", func := "canary/canarylaw04.DigestStates", spec := "digestStates", named := ["canary/digest.initial", "canary/digest.constants"], apart := false, laid := [("canary/digest.initial", laid_canary_digest_initial), ("canary/digest.constants", laid_canary_digest_constants)], narrowed := true }
def DigestStatesUptoSaid : Prop := digestStatesUptoRow.holds Tryd.pinned (OpenSpec.upto digestStatesSpec)

end Rows
end Go.Proofs.YtbdahlfakinagaaDoor
