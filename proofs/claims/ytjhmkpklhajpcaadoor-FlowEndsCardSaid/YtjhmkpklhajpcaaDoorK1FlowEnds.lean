/- FlowEnds' plain law, as the glue wants it. -/
import Derived.Test.YtjhmkpklhajpcaaDoorKEnds
import Derived.Test.YtjhmkpklhajpcaaDoorD1
namespace Go.Proofs.YtjhmkpklhajpcaaDoor
open Go.Sx
theorem flowEnds_true (p0 : List api_Inst) (p1 : List Int) (g0 : p0.length * 40 ≤ reachBytes ∧ ∀ y22 ∈ p0, G_api_Inst y22) (g1 : p1.length * 8 ≤ reachBytes ∧ ∀ y ∈ p1, (Lit.int .i64 y).wf = true) : ∃ fu, tappetlaw07_FlowEnds fu p0 p1 = some true :=
  ⟨1000, flowEnds_law p0 p1 (by have := g0.1; unfold reachBytes at this; omega)⟩
end Go.Proofs.YtjhmkpklhajpcaaDoor
