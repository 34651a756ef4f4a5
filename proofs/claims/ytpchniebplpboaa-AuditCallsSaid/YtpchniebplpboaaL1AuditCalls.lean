/- THE STATEMENT AuditCallsSaid IS PROVED: for every input the law returns true, and what was there before the call is as it was. No condition. -/
import Derived.Test.YtpchniebplpboaaRows
import Derived.Test.YtpchniebplpboaaW1
import Derived.Test.YtpchniebplpboaaD1
import Derived.Test.YtpchniebplpboaaK1AuditCalls
set_option linter.unusedVariables false
set_option linter.unusedSimpArgs false
namespace Go.Proofs.Ytpchniebplpboaa
open Go.Sx Go.ChangeShapes Go.WideShapes Go.ChangeAt Go.RowKit

set_option maxRecDepth 100000 in
theorem auditCalls_lifted (os : Os) (started : os.Started) (H : Type) (enc : TypeId × Value → H) :
    ReturnsInHanded {} Try.checked os 4 .any (Rows.auditCallsSpec.pre6 enc Try.prog Try.f4 Rows.auditCallsRow.domain false) (Rows.auditCallsSpec.post enc Try.prog Try.f4 false true false false) := by
  refine law_lifted (C := Try.checked) (tb := 4) H enc (by kernel_rfl) started (by kernel_rfl) Try.func4
    (ChangeSpec.witness6 (enc := enc) (C := Try.checked) false ⟨#[], #[.int .i64 0, .slice none 0 0], []⟩ 8 (by kernel_rfl) (by kernel_rfl) (by kernel_rfl) (by kernel_rfl))
    (by kernel_rfl) rfl (by kernel_rfl) rfl (by kernel_rfl) ?_ ?_
  · intro ds hl
    match ds, hl with
    | [d0, d1], _ => exact ⟨rfl, rfl, rfl⟩
  · intro W base args ds ps hval0 hA0 hw0
    have hval : ∀ (j : Nat) t v, Try.f4.params[j]? = some t → args[j]? = some v → Value.okWide Try.prog W .any base t v := hval0
    have hA : DataW.TrodAll enc Try.prog W 0 (fun _ => true) true [3, 25] args.toList ds ps := hA0
    have hw : ∀ n ∈ DataW.weightsEach Try.prog [3, 25] ds, n ≤ reachBytes := hw0
    clear hval0 hA0 hw0
    obtain ⟨args⟩ := args
    obtain ⟨v0, vs0, ds0, ps0, e0, k0, hA, hw⟩ := Go.Sx.trodAll_cons hA hw
    obtain ⟨v1, vs1, ds1, ps1, e1, k1, hA, hw⟩ := Go.Sx.trodAll_cons hA hw
    have en := Go.Sx.trodAll_nil hA
    have ea : args = [v0, v1] := by rw [show args = _ from e0, e1, en]
    subst ea
    obtain ⟨a0, c0, g0⟩ := k0 _ _ _ (Dec.int (t := 3) (k := .i64) (by kernel_rfl))
    have f0 := cell_val (P := Try.prog) (w := W) (hval 0 3 v0 rfl rfl) c0 (.inl ⟨.i64, by kernel_rfl⟩)
    subst f0
    obtain ⟨a1, ⟨u1, c1, m1⟩, g1⟩ := k1 _ _ _ (Dec.slice (t := 25) (e := 48) (sz := 22) (bytes := 176) dec_api_Entry (by kernel_rfl) (by kernel_rfl) (by decide) (by kernel_rfl))
    have f1 := cell_val (P := Try.prog) (w := W) (hval 1 25 v1 rfl rfl) c1 (.inr (.inr (.inr ⟨48, by kernel_rfl⟩)))
    subst f1
    obtain ⟨fu, hfu⟩ := auditCalls_true a0 a1 g0 g1
    exact (tappetlaw27_AuditCalls_ok W fu a0 v1 a1 true hfu (St.zero W) m1).mono fun e w' ⟨he, hst⟩ => ⟨he, hst.chg⟩

theorem auditCalls_holds : Rows.AuditCallsSaid :=
  OpenClaim.holds_of_wide 4 Try.f4 rfl rfl rfl rfl rfl rfl rfl ⟨rfl, rfl, rfl, rfl, rfl⟩ rfl rfl rfl rfl rfl (by kernel_rfl) Try.func4 (by kernel_rfl)
    (of_decide_eq_true (by kernel_rfl)) (by unfold Func.isWrapper; first | (rw [if_pos (by decide +kernel)]; kernel_rfl) | (rw [if_neg (by decide +kernel)]; exact ⟨rfl, rfl⟩))
    (fun os started H enc _ => auditCalls_lifted os started H enc)
#print axioms auditCalls_holds
end Go.Proofs.Ytpchniebplpboaa
