/- WorkerRuns' plain law, in the form that the joining text wants. -/
import Derived.Test.YtkgajppghpmkbaaDoorKRuns
import Derived.Test.YtkgajppghpmkbaaDoorD1
set_option linter.unusedSimpArgs false
set_option linter.unusedVariables false
namespace Go.Proofs.YtkgajppghpmkbaaDoor
open Go.Sx
theorem lit_u64 {n : Int} (h : (Lit.int .u64 n).wf = true) : u64 n := by
  simp only [Lit.wf, Bool.and_eq_true, decide_eq_true_eq] at h
  exact ⟨h.1, Int.lt_of_le_of_lt h.2 (by decide)⟩
theorem workerRuns_true (p0 : List tappetlaw23_Event) (g0 : p0.length * 96 ≤ reachBytes ∧ ∀ y62 ∈ p0, G_tappetlaw23_Event y62) : ∃ fu, tappetlaw23_WorkerRuns fu p0 = some true := by
  refine ⟨1000, workerRuns_law p0 (fun x hx => ?_)⟩
  obtain ⟨_, gE, gM, gR⟩ := g0.2 x hx
  refine ⟨?_, ?_, ⟨lit_u64 gE.1, lit_u64 gE.2⟩, fun r hr => lit_u64 (gR.2 r hr).2.2.1⟩
  · have := gM.1.1; simp only [reachBytes] at this; omega
  · have := gM.2.1; simp only [reachBytes] at this; omega
end Go.Proofs.YtkgajppghpmkbaaDoor
