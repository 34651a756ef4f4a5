/- LinesPrints's plain law, in the form that the joining text wants. -/
import Derived.Test.YteaedkohbgediaaDoorKRef
import Derived.Test.YteaedkohbgediaaDoorD1
namespace Go.Proofs.YteaedkohbgediaaDoor
open Go.Sx
theorem linesPrints_true (p0 : List api_Inst) (g0 : p0.length * 40 ≤ reachBytes ∧ ∀ y22 ∈ p0, G_api_Inst y22) : ∃ fu, tappetlaw03_LinesPrints fu p0 = some true := by
  refine ⟨1000, linesPrints_law p0 ?_ (fun x hx => ?_)⟩
  · have := g0.1; simp only [reachBytes] at this; omega
  · have h := (g0.2 x hx).2.2.2.2
    simp only [Lit.wf, Bool.and_eq_true, decide_eq_true_eq] at h
    have h1 : IntKind.i64.min = -9223372036854775808 := rfl
    have h2 : IntKind.i64.max = 9223372036854775807 := rfl
    exact ⟨by omega, by omega⟩
end Go.Proofs.YteaedkohbgediaaDoor
