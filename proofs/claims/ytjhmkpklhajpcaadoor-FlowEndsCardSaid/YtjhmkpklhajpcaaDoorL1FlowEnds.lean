/- THE STATEMENT FlowEndsCardSaid IS PROVED (the tied card): for every input the law returns true, and what was there before the call is as it was. The listed tables read as the program's text lays them; the card ties that to the text. -/
import Derived.Test.YtjhmkpklhajpcaaDoorRows
import Derived.Test.YtjhmkpklhajpcaaDoorCards
import Derived.Test.YtjhmkpklhajpcaaDoorTie
import Derived.Test.YtjhmkpklhajpcaaDoorLaid
import Derived.Test.YtjhmkpklhajpcaaDoorW1
import Derived.Test.YtjhmkpklhajpcaaDoorD1
import Derived.Test.YtjhmkpklhajpcaaDoorK1FlowEnds
set_option linter.unusedVariables false
namespace Go.Proofs.YtjhmkpklhajpcaaDoor
open Go.Sx Go.ChangeShapes Go.WideShapes Go.ChangeAt Go.RowKit

theorem flowEnds_met (os : Os) : laidMet Tryd.prog Rows.flowEndsRow.laid ((laidWorld Tryd.prog os [(0, (laidCells (H := Unit) Rows.laid_tappet_ops_forms).getD [])]).forCall (fun _ _ => 0) ⟨#[], #[.slice none 0 0, .slice none 0 0], []⟩).memory :=
  laidMet_of_run' 8 (by kernel_rfl) (by kernel_rfl)
set_option maxRecDepth 100000 in
theorem flowEnds_lifted (os : Os) (started : os.Started) (H : Type) (enc : TypeId × Value → H) (F : Stop.Interp) :
    ReturnsInHanded {} Tryd.checked os 6 .any ((OpenSpec.ofChange Rows.flowEndsSpec).preRow enc Tryd.prog Tryd.f6 Rows.flowEndsRow.domain false Rows.flowEndsRow.laid) (((OpenSpec.ofChange Rows.flowEndsSpec).at F).post enc Tryd.prog Tryd.f6 false true false false) := by
  obtain ⟨x, hx⟩ : ∃ x, DataW.whole enc Tryd.prog ((laidWorld Tryd.prog os [(0, (laidCells (H := Unit) Rows.laid_tappet_ops_forms).getD [])]).forCall (fun _ _ => 0) ⟨#[], #[.slice none 0 0, .slice none 0 0], []⟩).memory Tryd.f6.params.toList Rows.flowEndsSpec.vars false (#[.slice none 0 0, .slice none 0 0] : Array Value).toList 8 = some x := Option.isSome_iff_exists.1 (by kernel_rfl)
  refine lawRow_lifted (C := Tryd.checked) (tb := 4) H enc (by kernel_rfl) started (by kernel_rfl) Tryd.func6
    (witness_row_at (enc := enc) (C := Tryd.checked) false (laidWorld Tryd.prog os [(0, (laidCells (H := Unit) Rows.laid_tappet_ops_forms).getD [])]) #[.slice none 0 0, .slice none 0 0] rfl (by kernel_rfl) (by kernel_rfl) (by kernel_rfl)
      (OpenSpec.preRow_of_cond 8 hx (by rfl) (fun k hk => by cases hk) (by kernel_rfl) (flowEnds_met os)))
    (by kernel_rfl) rfl (by kernel_rfl) rfl (by kernel_rfl) ?_ ?_
  · intro ds hl
    match ds, hl with
    | [d0, d1], _ => exact ⟨rfl, rfl, rfl⟩
  · intro W base args ds ps hL hval0 hA0 hw0
    have hval : ∀ (j : Nat) t v, Tryd.f6.params[j]? = some t → args[j]? = some v → Value.okWide Tryd.prog W .any base t v := hval0
    have hA : DataW.TrodAll enc Tryd.prog W 0 (fun _ => true) true [22, 41] args.toList ds ps := hA0
    have hw : ∀ n ∈ DataW.weightsEach Tryd.prog [22, 41] ds, n ≤ reachBytes := hw0
    clear hval0 hA0 hw0
    obtain ⟨args⟩ := args
    obtain ⟨v0, vs0, ds0, ps0, e0, k0, hA, hw⟩ := Go.Sx.trodAll_cons hA hw
    obtain ⟨v1, vs1, ds1, ps1, e1, k1, hA, hw⟩ := Go.Sx.trodAll_cons hA hw
    have en := Go.Sx.trodAll_nil hA
    have ea : args = [v0, v1] := by rw [show args = _ from e0, e1, en]
    subst ea
    obtain ⟨a0, ⟨u0, c0, m0⟩, g0⟩ := k0 _ _ _ (Dec.slice (t := 22) (e := 32) (sz := 5) (bytes := 40) dec_api_Inst (by kernel_rfl) (by kernel_rfl) (by decide) (by kernel_rfl))
    have f0 := cell_val (P := Tryd.prog) (w := W) (hval 0 22 v0 rfl rfl) c0 (.inr (.inr (.inr ⟨32, by kernel_rfl⟩)))
    subst f0
    obtain ⟨a1, ⟨u1, c1, m1⟩, g1⟩ := k1 _ _ _ (Dec.slice (t := 41) (e := 3) (sz := 1) (bytes := 8) (Dec.int (t := 3) (k := .i64) (by kernel_rfl)) (by kernel_rfl) (by kernel_rfl) (by decide) (by kernel_rfl))
    have f1 := cell_val (P := Tryd.prog) (w := W) (hval 1 41 v1 rfl rfl) c1 (.inr (.inr (.inr ⟨3, by kernel_rfl⟩)))
    subst f1
    obtain ⟨fu, hfu⟩ := flowEnds_true a0 a1 g0 g1
    have t0 : Rd W (fp []) (.slice (some ⟨0, 0, none⟩) 23 23) enc_ops_form 2 tab_g0 := laid_rd (t := 76) (enc := enc_ops_form) (sz := 2) (xs := tab_g0) (m := 23) 0 5 hL rfl (by kernel_rfl) (by kernel_rfl) (by kernel_rfl) (by kernel_rfl) (fun _ => rfl) (by kernel_rfl) (by kernel_rfl)
    exact (tappetlaw07_FlowEnds_ok W fu v0 a0 v1 a1 true hfu (St.zero W) m0 m1 t0).mono fun e w' ⟨he, hst⟩ => ⟨he, hst.chg⟩

theorem flowEnds_said : Rows.FlowEndsSaid :=
  OpenClaim.holds_of_cond 6 Tryd.f6 rfl rfl rfl rfl rfl rfl rfl ⟨rfl, rfl, rfl, rfl, rfl⟩ rfl rfl rfl rfl rfl (by kernel_rfl) Tryd.func6 (by kernel_rfl)
    (of_decide_eq_true (by kernel_rfl)) (by unfold Func.isWrapper; first | (rw [if_pos (by decide +kernel)]; kernel_rfl) | (rw [if_neg (by decide +kernel)]; exact ⟨rfl, rfl⟩))
    (fun os started H enc _ F => by rw [OpenClaim.pre_eq_preRow]; exact flowEnds_lifted os started H enc F)
theorem flowEnds_plain (f : FuncId) (fn : Func) (hf : Tryd.pinned.checked.prog.funcNamed "tappet/tappetlaw07.FlowEnds" = some f) (hfn : Tryd.pinned.checked.prog.funcs[f]? = some fn) :
    false = Tryd.pinned.checked.prog.looks [] ∧ ∀ (j : Nat) t, fn.params[j]? = some t → Tryd.pinned.checked.prog.wantsStandIn t = false := by
  obtain rfl : f = 6 := Option.some.inj ((show Tryd.prog.funcNamed "tappet/tappetlaw07.FlowEnds" = some 6 by kernel_rfl).symm.trans hf) |>.symm
  obtain rfl : fn = Tryd.f6 := (Option.some.inj (Tryd.func6.symm.trans hfn)).symm
  refine ⟨by kernel_rfl, fun j t ht => ?_⟩
  have ht2 : t ∈ Tryd.f6.params := Array.mem_of_getElem? ht
  rw [Tryd.params6] at ht2
  simp only [List.mem_toArray, List.mem_cons, List.not_mem_nil, or_false] at ht2
  rcases ht2 with rfl | rfl
  · exact (show Tryd.prog.wantsStandIn 22 = false by kernel_rfl)
  · exact (show Tryd.prog.wantsStandIn 41 = false by kernel_rfl)
theorem flowEndsCard_holds : Rows.FlowEndsCardSaid :=
  Claim7.holds_tied_plain_at .later [] _ _ _ _ flowEnds_said (fun _ h => by cases h) (by kernel_rfl) (fun _ h => by cases h) flowEnds_row_tie rfl ⟨rfl, rfl⟩ (by kernel_rfl) rfl flowEnds_plain (by kernel_rfl)
#print axioms flowEndsCard_holds
end Go.Proofs.YtjhmkpklhajpcaaDoor
