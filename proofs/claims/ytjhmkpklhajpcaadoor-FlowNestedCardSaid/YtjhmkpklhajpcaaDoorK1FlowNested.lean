/- FlowNested' plain law, as the glue wants it. -/
import Derived.Test.YtjhmkpklhajpcaaDoorKNested
import Derived.Test.YtjhmkpklhajpcaaDoorD1
namespace Go.Proofs.YtjhmkpklhajpcaaDoor
open Go.Sx
theorem flowNested_true (p0 : List api_Inst) (g0 : p0.length * 40 ≤ reachBytes ∧ ∀ y22 ∈ p0, G_api_Inst y22) : ∃ fu, tappetlaw07_FlowNested fu p0 = some true :=
  ⟨100, flowNested_law p0 (by have := g0.1; unfold reachBytes at this; omega)⟩
end Go.Proofs.YtjhmkpklhajpcaaDoor
