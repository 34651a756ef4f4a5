/- What a reading says of the entries; the cut; what the statements fix by examples. -/
import Derived.Test.YtpchniebplpboaaKMaps
import Derived.Test.YtpchniebplpboaaD1
set_option linter.unusedVariables false
set_option linter.unusedSimpArgs false
namespace Go.Proofs.Ytpchniebplpboaa
open Go.Sx

theorem wfu64 {n : Int} (h : (Lit.int .u64 n).wf = true) : 0 ≤ n ∧ n < 18446744073709551616 := by
  simp only [Lit.wf, Bool.and_eq_true, decide_eq_true_eq] at h
  have h1 : IntKind.u64.min = 0 := rfl
  have h2 : IntKind.u64.max = 18446744073709551615 := rfl
  exact ⟨by omega, by omega⟩
theorem key_ok {e : api_Entry} (h : G_api_Entry e) : KeyOK e := wfu64 h.2.2.2.2.2.2.2.2.2.2.1.2.2.1
set_option maxRecDepth 100000 in
theorem awake_is : tappetlaw27_awake 4000 = some true := by decide +kernel
end Go.Proofs.Ytpchniebplpboaa
