/- WorkerRefuses' plain law, in the form that the joining text wants. -/
import Derived.Test.YtkgajppghpmkbaaDoorKRefuses
import Derived.Test.YtkgajppghpmkbaaDoorD1
set_option linter.unusedSimpArgs false
set_option linter.unusedVariables false
namespace Go.Proofs.YtkgajppghpmkbaaDoor
open Go.Sx
theorem lit_u64 {n : Int} (h : (Lit.int .u64 n).wf = true) : u64 n := by
  simp only [Lit.wf, Bool.and_eq_true, decide_eq_true_eq] at h
  exact ⟨h.1, Int.lt_of_le_of_lt h.2 (by decide)⟩
theorem workerRefuses_true (p0 : tappetlaw23_Event) (p1 : List Int) (g0 : G_tappetlaw23_Event p0) (g1 : p1.length * 8 ≤ reachBytes ∧ ∀ y25 ∈ p1, (Lit.int .i64 y25).wf = true) : ∃ fu, tappetlaw23_WorkerRefuses fu p0 p1 = some true := by
  obtain ⟨_, gE, gM, _⟩ := g0
  refine ⟨1000, workerRefuses_law p0 p1 ?_ ?_ ⟨lit_u64 gE.1, lit_u64 gE.2⟩⟩
  · have := gM.1.1; simp only [reachBytes] at this; omega
  · have := gM.2.1; simp only [reachBytes] at this; omega
end Go.Proofs.YtkgajppghpmkbaaDoor
