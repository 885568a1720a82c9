/- Bytes. -/
import Derived.Test.YtbdahlfakinagaaDoorRg
import Derived.Test.YtbdahlfakinagaaDoorRow
set_option linter.unusedVariables false
namespace Go.Proofs.YtbdahlfakinagaaDoor
open Go.RowKit Go.Rg

abbrev bytes (l : List Int) : List Value := l.map (Value.int .u8)
end Go.Proofs.YtbdahlfakinagaaDoor
