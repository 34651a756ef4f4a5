/- TracePrints's plain law where what is read is of a bounded bulk, in the form that the joining text wants. -/
import Derived.Test.YtalllncanpcmfaaDoorKPrint
import Derived.Test.YtalllncanpcmfaaDoorK1TraceBackUpto
set_option linter.unusedVariables false
namespace Go.Proofs.YtalllncanpcmfaaDoor
open Go.Sx
theorem tracePrintsUpto_true (p0 : List api_Entry) (p1 : Int) (g0 : p0.length * 176 ≤ reachBytes ∧ ∀ y23 ∈ p0, G_api_Entry y23) (g1 : (Lit.int .i64 p1).wf = true) (b0 : p0.length ≤ 1048575) : ∃ fu, tappetlaw26_TracePrints fu p0 p1 = some true :=
  ⟨1000, tracePrints_law p0 p1 b0 (fun x hx => wf_entry (g0.2 x hx))⟩
end Go.Proofs.YtalllncanpcmfaaDoor
