/- KernPicks' plain law, as the glue wants it. -/
import Derived.Test.YthljmgepekhchaaK2
import Derived.Test.YthljmgepekhchaaD1
set_option linter.unusedVariables false
namespace Go.Proofs.Ythljmgepekhchaa
open Go.Sx
theorem kernPicks_true (p0 : Int) (p1 : List Bool) (p2 : Int) (g0 : (Lit.int .i64 p0).wf = true) (g1 : p1.length * 1 ≤ reachBytes ∧ ∀ y ∈ p1, True) (g2 : (Lit.int .i64 p2).wf = true) : ∃ fu, tappetlaw21_KernPicks fu p0 p1 p2 = some true :=
  ⟨1000, picks_law 1000 p0 p1 p2 (by omega) (by have := g1.1; unfold reachBytes at this; omega)⟩
end Go.Proofs.Ythljmgepekhchaa
