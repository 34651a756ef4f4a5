/- RefsOnce's plain law, as the glue wants it. -/
import Derived.Test.YtbhbegbnmndhdaaKOnce
import Derived.Test.YtbhbegbnmndhdaaD1
namespace Go.Proofs.Ytbhbegbnmndhdaa
open Go.Sx
theorem refsOnce_true (p0 : Int) (p1 : List tappetlaw18_Op) (p2 : Int) (_g0 : (Lit.int .i64 p0).wf = true) (g1 : p1.length * 40 ≤ reachBytes ∧ ∀ y22 ∈ p1, G_tappetlaw18_Op y22) (_g2 : (Lit.int .i64 p2).wf = true) : ∃ fu, tappetlaw18_RefsOnce fu p0 p1 p2 = some true :=
  ⟨1000, once_true p0 p1 p2 (fun o ho => by
    have h := (g1.2 o ho).2.2.1
    unfold reachBytes at h
    omega)⟩
end Go.Proofs.Ytbhbegbnmndhdaa
