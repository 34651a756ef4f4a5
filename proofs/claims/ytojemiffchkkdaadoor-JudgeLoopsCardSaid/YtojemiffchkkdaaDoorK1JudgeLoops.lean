/- JudgeLoops' plain law, in the form that the joining text wants. -/
import Derived.Test.YtojemiffchkkdaaDoorKLoops
import Derived.Test.YtojemiffchkkdaaDoorD1
namespace Go.Proofs.YtojemiffchkkdaaDoor
open Go.Sx
theorem judgeLoops_true (p0 : api_Module) (g0 : G_api_Module p0) : ∃ fu, tappetlaw09_JudgeLoops fu p0 = some true := by
  refine ⟨100, judgeLoops_law p0 ?_ ?_⟩
  · have := g0.1.1; simp only [reachBytes] at this; omega
  · have := g0.2.1; simp only [reachBytes] at this; omega
end Go.Proofs.YtojemiffchkkdaaDoor
