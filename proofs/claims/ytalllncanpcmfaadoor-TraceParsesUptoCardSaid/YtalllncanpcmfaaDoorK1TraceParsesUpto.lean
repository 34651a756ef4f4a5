/- TraceParses's plain law where what is read is of a bounded bulk, in the form that the joining text wants. -/
import Derived.Test.YtalllncanpcmfaaDoorKParse
import Derived.Test.YtalllncanpcmfaaDoorD1
set_option linter.unusedVariables false
namespace Go.Proofs.YtalllncanpcmfaaDoor
open Go.Sx
theorem traceParsesUpto_true (p0 : ByteArray) (g0 : p0.size ≤ reachBytes) (b0 : p0.size ≤ 1048575) : ∃ fu, tappetlaw26_TraceParses fu p0 = some true :=
  ⟨1050000, traceParses_law p0 b0⟩
end Go.Proofs.YtalllncanpcmfaaDoor
