/- FlowLoops' plain law, as the glue wants it. -/
import Derived.Test.YtjhmkpklhajpcaaDoorKCheck
import Derived.Test.YtjhmkpklhajpcaaDoorD1
namespace Go.Proofs.YtjhmkpklhajpcaaDoor
open Go.Sx
theorem flowLoops_true (p0 : List api_Inst) (g0 : p0.length * 40 ≤ reachBytes ∧ ∀ y22 ∈ p0, G_api_Inst y22) : ∃ fu, tappetlaw07_FlowLoops fu p0 = some true :=
  ⟨100, flowLoops_law p0 (by have := g0.1; unfold reachBytes at this; omega)⟩
end Go.Proofs.YtjhmkpklhajpcaaDoor
