/- LinesBack's plain law where what is read is of a bounded bulk, in the form that the joining text wants. -/
import Derived.Test.YteaedkohbgediaaDoorKBack
import Derived.Test.YteaedkohbgediaaDoorD1
namespace Go.Proofs.YteaedkohbgediaaDoor
open Go.Sx
theorem linesBackUpto_true (p0 : List api_Inst) (p1 : ByteArray) (g0 : p0.length * 40 ≤ reachBytes ∧ ∀ y22 ∈ p0, G_api_Inst y22) (g1 : p1.size ≤ reachBytes) (b1 : p1.size ≤ 1048575) : ∃ fu, tappetlaw03_LinesBack fu p0 p1 = some true := by
  refine ⟨p0.length + p1.size + 1000, linesBack_law p0 p1 ?_ (fun x hx => ?_) b1⟩
  · have := g0.1; simp only [reachBytes] at this; omega
  · have h := (g0.2 x hx).2.2.2.2
    simp only [Lit.wf, Bool.and_eq_true, decide_eq_true_eq] at h
    have h1 : IntKind.i64.min = -9223372036854775808 := rfl
    have h2 : IntKind.i64.max = 9223372036854775807 := rfl
    exact ⟨by omega, by omega⟩
end Go.Proofs.YteaedkohbgediaaDoor
