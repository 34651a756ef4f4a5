/- TraceOnly's plain law in the form that the joining text wants. -/
import Derived.Test.YtalllncanpcmfaaDoorKOf
import Derived.Test.YtalllncanpcmfaaDoorD1
set_option linter.unusedVariables false
namespace Go.Proofs.YtalllncanpcmfaaDoor
open Go.Sx
theorem traceOnly_true (p0 : List api_Entry) (p1 : List Int) (p2 : List Int) (g0 : p0.length * 176 ≤ reachBytes ∧ ∀ y23 ∈ p0, G_api_Entry y23) (g1 : p1.length * 8 ≤ reachBytes ∧ ∀ y52 ∈ p1, (Lit.int .i64 y52).wf = true) (g2 : p2.length * 8 ≤ reachBytes ∧ ∀ y52 ∈ p2, (Lit.int .i64 y52).wf = true) : ∃ fu, tappetlaw26_TraceOnly fu p0 p1 p2 = some true := by
  have h : reachBytes = 140737488351232 := rfl
  exact ⟨p0.length + 1000, traceOnly_law _ p0 p1 p2 (Nat.le_refl _) (by omega) (by omega) (by omega)⟩
end Go.Proofs.YtalllncanpcmfaaDoor
