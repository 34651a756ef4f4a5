/- RefsMany's plain law, as the glue wants it. -/
import Derived.Test.YtbhbegbnmndhdaaKMany
import Derived.Test.YtbhbegbnmndhdaaD1
namespace Go.Proofs.Ytbhbegbnmndhdaa
open Go.Sx
theorem refsMany_true (p0 : List tappetlaw18_Op) (p1 : List Int) (g0 : p0.length * 40 ≤ reachBytes ∧ ∀ y22 ∈ p0, G_tappetlaw18_Op y22) (g1 : p1.length * 8 ≤ reachBytes ∧ ∀ y28 ∈ p1, (Lit.int .i64 y28).wf = true) : ∃ fu, tappetlaw18_RefsMany fu p0 p1 = some true :=
  ⟨1000, many_true p0 p1 (fun o ho => by
    have h := (g0.2 o ho).2.2.1
    unfold reachBytes at h
    omega) (by
    have h := g1.1
    unfold reachBytes at h
    omega)⟩
end Go.Proofs.Ytbhbegbnmndhdaa
