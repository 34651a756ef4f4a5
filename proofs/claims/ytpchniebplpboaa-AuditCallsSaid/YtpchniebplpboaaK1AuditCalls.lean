/- The plain law: every audit of Calls and Events tells what the document tells. -/
import Derived.Test.YtpchniebplpboaaKKey
import Derived.Test.YtpchniebplpboaaKCalls
import Derived.Test.YtpchniebplpboaaKEvents
set_option linter.unusedVariables false
set_option linter.unusedSimpArgs false
namespace Go.Proofs.Ytpchniebplpboaa
open Go.Sx
theorem auditCalls_true (p0 : Int) (p1 : List api_Entry) (g0 : (Lit.int .i64 p0).wf = true) (g1 : p1.length * 176 ≤ reachBytes ∧ ∀ y25 ∈ p1, G_api_Entry y25) : ∃ fu, tappetlaw27_AuditCalls fu p0 p1 = some true := by
  refine ⟨4000, ?_⟩
  have hl : (p1.take 1500).length ≤ 1500 := by simp only [List.length_take]; omega
  obtain ⟨z, z1, z2⟩ := Calls_is (fu := 4000) hl (by omega)
  obtain ⟨u, u1, u2⟩ := Events_is 4000 p0 hl
  unfold tappetlaw27_AuditCalls
  rw [awake_is]
  simp only [Option.bind_some, Bool.not_true, Bool.false_eq_true, if_false, cut_is, z1, z2, u1, u2, beq_self_eq_true, if_true]
end Go.Proofs.Ytpchniebplpboaa
