/- THE STATEMENT RefsOnceSaid IS PROVED: for every input the law returns true, and what was there before the call is as it was. No condition. -/
import Derived.Test.YtbhbegbnmndhdaaRows
import Derived.Test.YtbhbegbnmndhdaaW1
import Derived.Test.YtbhbegbnmndhdaaD1
import Derived.Test.YtbhbegbnmndhdaaK1RefsOnce
set_option linter.unusedVariables false
namespace Go.Proofs.Ytbhbegbnmndhdaa
open Go.Sx Go.ChangeShapes Go.WideShapes Go.ChangeAt Go.RowKit

set_option maxRecDepth 100000 in
theorem refsOnce_lifted (os : Os) (started : os.Started) (H : Type) (enc : TypeId × Value → H) :
    ReturnsInHanded {} Try.checked os 3 .any (Rows.refsOnceSpec.pre6 enc Try.prog Try.f3 Rows.refsOnceRow.domain false) (Rows.refsOnceSpec.post enc Try.prog Try.f3 false true false false) := by
  refine law_lifted (C := Try.checked) (tb := 4) H enc (by kernel_rfl) started (by kernel_rfl) Try.func3
    (ChangeSpec.witness6 (enc := enc) (C := Try.checked) false ⟨#[], #[.int .i64 0, .slice none 0 0, .int .i64 0], []⟩ 8 (by kernel_rfl) (by kernel_rfl) (by kernel_rfl) (by kernel_rfl))
    (by kernel_rfl) rfl (by kernel_rfl) rfl (by kernel_rfl) ?_ ?_
  · intro ds hl
    match ds, hl with
    | [d0, d1, d2], _ => exact ⟨rfl, rfl, rfl⟩
  · intro W base args ds ps hval0 hA0 hw0
    have hval : ∀ (j : Nat) t v, Try.f3.params[j]? = some t → args[j]? = some v → Value.okWide Try.prog W .any base t v := hval0
    have hA : DataW.TrodAll enc Try.prog W 0 (fun _ => true) true [3, 22, 3] args.toList ds ps := hA0
    have hw : ∀ n ∈ DataW.weightsEach Try.prog [3, 22, 3] ds, n ≤ reachBytes := hw0
    clear hval0 hA0 hw0
    obtain ⟨args⟩ := args
    obtain ⟨v0, vs0, ds0, ps0, e0, k0, hA, hw⟩ := Go.Sx.trodAll_cons hA hw
    obtain ⟨v1, vs1, ds1, ps1, e1, k1, hA, hw⟩ := Go.Sx.trodAll_cons hA hw
    obtain ⟨v2, vs2, ds2, ps2, e2, k2, hA, hw⟩ := Go.Sx.trodAll_cons hA hw
    have en := Go.Sx.trodAll_nil hA
    have ea : args = [v0, v1, v2] := by rw [show args = _ from e0, e1, e2, en]
    subst ea
    obtain ⟨a0, c0, g0⟩ := k0 _ _ _ (Dec.int (t := 3) (k := .i64) (by kernel_rfl))
    have f0 := cell_val (P := Try.prog) (w := W) (hval 0 3 v0 rfl rfl) c0 (.inl ⟨.i64, by kernel_rfl⟩)
    subst f0
    obtain ⟨a1, ⟨u1, c1, m1⟩, g1⟩ := k1 _ _ _ (Dec.sliceN (t := 22) (e := 30) (sz := 3) (bytes := 40) dec_tappetlaw18_Op (by kernel_rfl) (by kernel_rfl) (by decide) (by kernel_rfl))
    have f1 := cell_val (P := Try.prog) (w := W) (hval 1 22 v1 rfl rfl) c1 (.inr (.inr (.inr ⟨30, by kernel_rfl⟩)))
    subst f1
    obtain ⟨a2, c2, g2⟩ := k2 _ _ _ (Dec.int (t := 3) (k := .i64) (by kernel_rfl))
    have f2 := cell_val (P := Try.prog) (w := W) (hval 2 3 v2 rfl rfl) c2 (.inl ⟨.i64, by kernel_rfl⟩)
    subst f2
    obtain ⟨fu, hfu⟩ := refsOnce_true a0 a1 a2 g0 g1 g2
    exact (tappetlaw18_RefsOnce_ok W fu a0 v1 a1 a2 true hfu (St.zero W) m1).mono fun e w' ⟨he, hst⟩ => ⟨he, hst.chg⟩

theorem refsOnce_holds : Rows.RefsOnceSaid :=
  OpenClaim.holds_of_wide 3 Try.f3 rfl rfl rfl rfl rfl rfl rfl ⟨rfl, rfl, rfl, rfl, rfl⟩ rfl rfl rfl rfl rfl (by kernel_rfl) Try.func3 (by kernel_rfl)
    (of_decide_eq_true (by kernel_rfl)) (by unfold Func.isWrapper; first | (rw [if_pos (by decide +kernel)]; kernel_rfl) | (rw [if_neg (by decide +kernel)]; exact ⟨rfl, rfl⟩))
    (fun os started H enc _ => refsOnce_lifted os started H enc)
#print axioms refsOnce_holds
end Go.Proofs.Ytbhbegbnmndhdaa
