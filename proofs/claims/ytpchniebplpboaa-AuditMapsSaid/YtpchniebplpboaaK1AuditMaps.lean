/- The plain law: every audit of Maps tells what the document tells. -/
import Derived.Test.YtpchniebplpboaaKKey
set_option linter.unusedVariables false
set_option linter.unusedSimpArgs false
namespace Go.Proofs.Ytpchniebplpboaa
open Go.Sx
theorem auditMaps_true (p0 : api_Config) (p1 : List api_Entry) (g0 : G_api_Config p0) (g1 : p1.length * 176 ≤ reachBytes ∧ ∀ y25 ∈ p1, G_api_Entry y25) : ∃ fu, tappetlaw27_AuditMaps fu p0 p1 = some true := by
  refine ⟨4000, ?_⟩
  have hl : (p1.take 1500).length < 1000000000000 := by simp only [List.length_take]; omega
  obtain ⟨z, z1, z2, _⟩ := Maps_is (fu := 4000) (by omega) p0 (p1.take 1500) hl (fun e he => key_ok (g1.2 e (List.mem_of_mem_take he)))
  unfold tappetlaw27_AuditMaps
  rw [awake_is]
  simp only [Option.bind_some, Bool.not_true, Bool.false_eq_true, if_false, cut_is, z1, z2, beq_self_eq_true, Bool.and_self]
end Go.Proofs.Ytpchniebplpboaa
