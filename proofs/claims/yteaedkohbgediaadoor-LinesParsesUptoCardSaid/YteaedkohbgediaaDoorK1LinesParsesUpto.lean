/- LinesParses's plain law where what is read is of a bounded bulk, in the form that the joining text wants. -/
import Derived.Test.YteaedkohbgediaaDoorKRefParse
import Derived.Test.YteaedkohbgediaaDoorD1
set_option linter.unusedVariables false
namespace Go.Proofs.YteaedkohbgediaaDoor
open Go.Sx
theorem linesParsesUpto_true (p0 : ByteArray) (g0 : p0.size ≤ reachBytes) (b0 : p0.size ≤ 1048575) : ∃ fu, tappetlaw03_LinesParses fu p0 = some true :=
  ⟨p0.size + 1000, linesParses_law p0 b0⟩
end Go.Proofs.YteaedkohbgediaaDoor
