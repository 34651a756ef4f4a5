/- JudgeAgain's plain law, in the form that the joining text wants. -/
import Derived.Test.YtojemiffchkkdaaDoorKAgain
import Derived.Test.YtojemiffchkkdaaDoorD1
namespace Go.Proofs.YtojemiffchkkdaaDoor
open Go.Sx
theorem judgeAgain_true (p0 : api_Module) (p1 : Int) (g0 : G_api_Module p0) (g1 : (Lit.int .i64 p1).wf = true) : ∃ fu, tappetlaw09_JudgeAgain fu p0 p1 = some true := by
  refine ⟨100, judgeAgain_law p0 p1 ?_ ?_⟩
  · have := g0.1.1; simp only [reachBytes] at this; omega
  · have := g0.2.1; simp only [reachBytes] at this; omega
end Go.Proofs.YtojemiffchkkdaaDoor
