/-
  DERIVED. GIVEN WITH THE SEED: THE CARDS: each row of YtbdahlfakinagaaDoorRows.lean that lists a variable, with what it lists TIED to the program's text (the seventh form; the later family's looks); each row that meets fmt, with fmt's text TOLD by the authors' own Lean function (tested against real Go, not proved from fmt's source: count such statements apart). THE CARD IS WHAT COUNTS. Prove the row's statement (the work); the ties are given (YtbdahlfakinagaaDoorTie.lean); close each card by the builder's one call (the guide's Derived/Test/ToyasCard.lean, 'card_holds'). Laid BY PROGRAM, IN A SANDBOX (cutbox-door.mjs). By AI agents, Wed Nov 11 2026. No macro, syntax, notation, axiom, sorry.
-/
import Derived.Test.YtbdahlfakinagaaDoorRows
import GoSem.ClaimSeven
namespace Go.Proofs.YtbdahlfakinagaaDoor
namespace Rows

/-- THE TIED CARD OF 'canarylaw04.DigestOf'. -/
def digestOfCard : Claim7 := { stood := { row := digestOfRow, standIns := [], harness := (true, "b324fd3e5d50491d3c67482ba41ec020d503e54e849513b244d75d22accdc790"), looks := false }, kinds := [], alts := [], laidByText := true, laidKinds := [.data, .data], laidTests := true, laidLooks := .later }
def DigestOfCardSaid : Prop := Claim7.holds Tryd.pinned (.plain (OpenSpec.ofChange digestOfSpec)) digestOfCard

/-- THE TIED CARD OF 'canarylaw04.DigestPieces'. -/
def digestPiecesCard : Claim7 := { stood := { row := digestPiecesRow, standIns := [], harness := (true, "b324fd3e5d50491d3c67482ba41ec020d503e54e849513b244d75d22accdc790"), looks := false }, kinds := [], alts := [], laidByText := true, laidKinds := [.data, .data], laidTests := true, laidLooks := .later }
def DigestPiecesCardSaid : Prop := Claim7.holds Tryd.pinned (.plain (OpenSpec.ofChange digestPiecesSpec)) digestPiecesCard

/-- THE TIED CARD OF 'canarylaw04.DigestState'. -/
def digestStateCard : Claim7 := { stood := { row := digestStateRow, standIns := [], harness := (true, "b324fd3e5d50491d3c67482ba41ec020d503e54e849513b244d75d22accdc790"), looks := false }, kinds := [], alts := [], laidByText := true, laidKinds := [.data, .data], laidTests := true, laidLooks := .later }
def DigestStateCardSaid : Prop := Claim7.holds Tryd.pinned (.plain (OpenSpec.ofChange digestStateSpec)) digestStateCard

/-- THE TIED CARD OF 'canarylaw04.DigestKeeps'. -/
def digestKeepsCard : Claim7 := { stood := { row := digestKeepsRow, standIns := [], harness := (true, "b324fd3e5d50491d3c67482ba41ec020d503e54e849513b244d75d22accdc790"), looks := false }, kinds := [], alts := [], laidByText := true, laidKinds := [.data, .data], laidTests := true, laidLooks := .later }
def DigestKeepsCardSaid : Prop := Claim7.holds Tryd.pinned (.plain (OpenSpec.ofChange digestKeepsSpec)) digestKeepsCard

/-- THE TIED CARD OF 'canarylaw04.DigestStates'. -/
def digestStatesCard : Claim7 := { stood := { row := digestStatesRow, standIns := [], harness := (true, "b324fd3e5d50491d3c67482ba41ec020d503e54e849513b244d75d22accdc790"), looks := false }, kinds := [], alts := [], laidByText := true, laidKinds := [.data, .data], laidTests := true, laidLooks := .later }
def DigestStatesCardSaid : Prop := Claim7.holds Tryd.pinned (.plain (OpenSpec.ofChange digestStatesSpec)) digestStatesCard

/-- THE SECOND FORM's CARD OF 'canarylaw04.DigestOf'. -/
def digestOfUptoCard : Claim7 := { stood := { row := digestOfUptoRow, standIns := [], harness := (true, "b324fd3e5d50491d3c67482ba41ec020d503e54e849513b244d75d22accdc790"), looks := false }, kinds := [], alts := [], laidByText := true, laidKinds := [.data, .data], laidTests := true, laidLooks := .later }
def DigestOfUptoCardSaid : Prop := Claim7.holds Tryd.pinned (.plain (OpenSpec.upto digestOfSpec)) digestOfUptoCard

/-- THE SECOND FORM's CARD OF 'canarylaw04.DigestPieces'. -/
def digestPiecesUptoCard : Claim7 := { stood := { row := digestPiecesUptoRow, standIns := [], harness := (true, "b324fd3e5d50491d3c67482ba41ec020d503e54e849513b244d75d22accdc790"), looks := false }, kinds := [], alts := [], laidByText := true, laidKinds := [.data, .data], laidTests := true, laidLooks := .later }
def DigestPiecesUptoCardSaid : Prop := Claim7.holds Tryd.pinned (.plain (OpenSpec.upto digestPiecesSpec)) digestPiecesUptoCard

/-- THE SECOND FORM's CARD OF 'canarylaw04.DigestState'. -/
def digestStateUptoCard : Claim7 := { stood := { row := digestStateUptoRow, standIns := [], harness := (true, "b324fd3e5d50491d3c67482ba41ec020d503e54e849513b244d75d22accdc790"), looks := false }, kinds := [], alts := [], laidByText := true, laidKinds := [.data, .data], laidTests := true, laidLooks := .later }
def DigestStateUptoCardSaid : Prop := Claim7.holds Tryd.pinned (.plain (OpenSpec.upto digestStateSpec)) digestStateUptoCard

/-- THE SECOND FORM's CARD OF 'canarylaw04.DigestKeeps'. -/
def digestKeepsUptoCard : Claim7 := { stood := { row := digestKeepsUptoRow, standIns := [], harness := (true, "b324fd3e5d50491d3c67482ba41ec020d503e54e849513b244d75d22accdc790"), looks := false }, kinds := [], alts := [], laidByText := true, laidKinds := [.data, .data], laidTests := true, laidLooks := .later }
def DigestKeepsUptoCardSaid : Prop := Claim7.holds Tryd.pinned (.plain (OpenSpec.upto digestKeepsSpec)) digestKeepsUptoCard

/-- THE SECOND FORM's CARD OF 'canarylaw04.DigestStates'. -/
def digestStatesUptoCard : Claim7 := { stood := { row := digestStatesUptoRow, standIns := [], harness := (true, "b324fd3e5d50491d3c67482ba41ec020d503e54e849513b244d75d22accdc790"), looks := false }, kinds := [], alts := [], laidByText := true, laidKinds := [.data, .data], laidTests := true, laidLooks := .later }
def DigestStatesUptoCardSaid : Prop := Claim7.holds Tryd.pinned (.plain (OpenSpec.upto digestStatesSpec)) digestStatesUptoCard
end Rows
end Go.Proofs.YtbdahlfakinagaaDoor
