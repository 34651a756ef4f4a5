/- FlowNexts' plain law, as the glue wants it. -/
import Derived.Test.YtjhmkpklhajpcaaDoorKNext
import Derived.Test.YtjhmkpklhajpcaaDoorD1
namespace Go.Proofs.YtjhmkpklhajpcaaDoor
open Go.Sx
theorem flowNexts_true (p0 : List api_Inst) (p1 : Int) (g0 : p0.length * 40 ≤ reachBytes ∧ ∀ y22 ∈ p0, G_api_Inst y22) (g1 : (Lit.int .i64 p1).wf = true) : ∃ fu, tappetlaw07_FlowNexts fu p0 p1 = some true :=
  ⟨100, flowNexts_law p0 p1 (by have := g0.1; unfold reachBytes at this; omega)⟩
end Go.Proofs.YtjhmkpklhajpcaaDoor
