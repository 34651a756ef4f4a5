/- THE STATEMENT WorkerRunsCardSaid IS PROVED (the tied card): for every input the law returns true, and what was there before the call is as it was. The listed tables read as the program's text lays them; the card ties that to the text. -/
import Derived.Test.YtkgajppghpmkbaaDoorRows
import Derived.Test.YtkgajppghpmkbaaDoorCards
import Derived.Test.YtkgajppghpmkbaaDoorTie
import Derived.Test.YtkgajppghpmkbaaDoorLaid
import Derived.Test.YtkgajppghpmkbaaDoorW1
import Derived.Test.YtkgajppghpmkbaaDoorD1
import Derived.Test.YtkgajppghpmkbaaDoorK1WorkerRuns
set_option linter.unusedVariables false
set_option linter.unusedSimpArgs false
namespace Go.Proofs.YtkgajppghpmkbaaDoor
open Go.Sx Go.ChangeShapes Go.WideShapes Go.ChangeAt Go.RowKit

theorem workerRuns_met (os : Os) : laidMet Tryd.prog Rows.workerRunsRow.laid ((laidWorld Tryd.prog os [(0, (laidCells (H := Unit) Rows.laid_tappet_ops_forms).getD []), (1, (laidCells (H := Unit) Rows.laid_tappet_sigs_table).getD [])]).forCall (fun _ _ => 0) ⟨#[], #[.slice none 0 0], []⟩).memory :=
  laidMet_of_run' 8 (by kernel_rfl) (by kernel_rfl)
set_option maxRecDepth 100000 in
theorem workerRuns_lifted (os : Os) (started : os.Started) (H : Type) (enc : TypeId × Value → H) (F : Stop.Interp) :
    ReturnsInHanded {} Tryd.checked os 4 .any ((OpenSpec.ofChange Rows.workerRunsSpec).preRow enc Tryd.prog Tryd.f4 Rows.workerRunsRow.domain false Rows.workerRunsRow.laid) (((OpenSpec.ofChange Rows.workerRunsSpec).at F).post enc Tryd.prog Tryd.f4 false true false false) := by
  obtain ⟨x, hx⟩ : ∃ x, DataW.whole enc Tryd.prog ((laidWorld Tryd.prog os [(0, (laidCells (H := Unit) Rows.laid_tappet_ops_forms).getD []), (1, (laidCells (H := Unit) Rows.laid_tappet_sigs_table).getD [])]).forCall (fun _ _ => 0) ⟨#[], #[.slice none 0 0], []⟩).memory Tryd.f4.params.toList Rows.workerRunsSpec.vars false (#[.slice none 0 0] : Array Value).toList 8 = some x := Option.isSome_iff_exists.1 (by kernel_rfl)
  refine lawRow_lifted (C := Tryd.checked) (tb := 4) H enc (by kernel_rfl) started (by kernel_rfl) Tryd.func4
    (witness_row_at (enc := enc) (C := Tryd.checked) false (laidWorld Tryd.prog os [(0, (laidCells (H := Unit) Rows.laid_tappet_ops_forms).getD []), (1, (laidCells (H := Unit) Rows.laid_tappet_sigs_table).getD [])]) #[.slice none 0 0] rfl (by kernel_rfl) (by kernel_rfl) (by kernel_rfl)
      (OpenSpec.preRow_of_cond 8 hx (by rfl) (fun k hk => by cases hk) (by kernel_rfl) (workerRuns_met os)))
    (by kernel_rfl) rfl (by kernel_rfl) rfl (by kernel_rfl) ?_ ?_
  · intro ds hl
    match ds, hl with
    | [d0], _ => exact ⟨rfl, rfl, rfl⟩
  · intro W base args ds ps hL hval0 hA0 hw0
    have hval : ∀ (j : Nat) t v, Tryd.f4.params[j]? = some t → args[j]? = some v → Value.okWide Tryd.prog W .any base t v := hval0
    have hA : DataW.TrodAll enc Tryd.prog W 0 (fun _ => true) true [62] args.toList ds ps := hA0
    have hw : ∀ n ∈ DataW.weightsEach Tryd.prog [62] ds, n ≤ reachBytes := hw0
    clear hval0 hA0 hw0
    obtain ⟨args⟩ := args
    obtain ⟨v0, vs0, ds0, ps0, e0, k0, hA, hw⟩ := Go.Sx.trodAll_cons hA hw
    have en := Go.Sx.trodAll_nil hA
    have ea : args = [v0] := by rw [show args = _ from e0, en]
    subst ea
    obtain ⟨a0, ⟨u0, c0, m0⟩, g0⟩ := k0 _ _ _ (Dec.sliceN (t := 62) (e := 31) (sz := 6) (bytes := 96) dec_tappetlaw23_Event (by kernel_rfl) (by kernel_rfl) (by decide) (by kernel_rfl))
    have f0 := cell_val (P := Tryd.prog) (w := W) (hval 0 62 v0 rfl rfl) c0 (.inr (.inr (.inr ⟨31, by kernel_rfl⟩)))
    subst f0
    obtain ⟨fu, hfu⟩ := workerRuns_true a0 g0
    have t0 : Rd W (fp []) (.slice (some ⟨0, 0, none⟩) 23 23) enc_ops_form 2 tab_g0 := laid_rd (t := 195) (enc := enc_ops_form) (sz := 2) (xs := tab_g0) (m := 23) 0 5 hL rfl (by kernel_rfl) (by kernel_rfl) (by kernel_rfl) (by kernel_rfl) (fun _ => rfl) (by kernel_rfl) (by kernel_rfl)
    have t1 : Rd W (fp []) (.slice (some ⟨1, 0, none⟩) 7 7) enc_sigs_sig 5 tab_g1 := laid_rd (t := 196) (enc := enc_sigs_sig) (sz := 5) (xs := tab_g1) (m := 7) 1 5 hL rfl (by kernel_rfl) (by kernel_rfl) (by kernel_rfl) (by kernel_rfl) (fun _ => rfl) (by kernel_rfl) (by kernel_rfl)
    exact (tappetlaw23_WorkerRuns_ok W fu v0 a0 true hfu (St.zero W) m0 t0 t1).mono fun e w' ⟨he, hst⟩ => ⟨he, hst.chg⟩

theorem workerRuns_said : Rows.WorkerRunsSaid :=
  OpenClaim.holds_of_cond 4 Tryd.f4 rfl rfl rfl rfl rfl rfl rfl ⟨rfl, rfl, rfl, rfl, rfl⟩ rfl rfl rfl rfl rfl (by kernel_rfl) Tryd.func4 (by kernel_rfl)
    (of_decide_eq_true (by kernel_rfl)) (by unfold Func.isWrapper; first | (rw [if_pos (by decide +kernel)]; kernel_rfl) | (rw [if_neg (by decide +kernel)]; exact ⟨rfl, rfl⟩))
    (fun os started H enc _ F => by rw [OpenClaim.pre_eq_preRow]; exact workerRuns_lifted os started H enc F)
theorem workerRuns_plain (f : FuncId) (fn : Func) (hf : Tryd.pinned.checked.prog.funcNamed "tappet/tappetlaw23.WorkerRuns" = some f) (hfn : Tryd.pinned.checked.prog.funcs[f]? = some fn) :
    false = Tryd.pinned.checked.prog.looks [] ∧ ∀ (j : Nat) t, fn.params[j]? = some t → Tryd.pinned.checked.prog.wantsStandIn t = false := by
  obtain rfl : f = 4 := Option.some.inj ((show Tryd.prog.funcNamed "tappet/tappetlaw23.WorkerRuns" = some 4 by kernel_rfl).symm.trans hf) |>.symm
  obtain rfl : fn = Tryd.f4 := (Option.some.inj (Tryd.func4.symm.trans hfn)).symm
  refine ⟨by kernel_rfl, fun j t ht => ?_⟩
  have ht2 : t ∈ Tryd.f4.params := Array.mem_of_getElem? ht
  rw [Tryd.params4] at ht2
  simp only [List.mem_toArray, List.mem_cons, List.not_mem_nil, or_false] at ht2
  subst ht2
  exact (show Tryd.prog.wantsStandIn 62 = false by kernel_rfl)
theorem workerRunsCard_holds : Rows.WorkerRunsCardSaid :=
  Claim7.holds_tied_plain_at .later [] _ _ _ _ workerRuns_said (fun _ h => by cases h) (by kernel_rfl) (fun _ h => by cases h) workerRuns_row_tie rfl ⟨rfl, rfl⟩ (by kernel_rfl) rfl workerRuns_plain (by kernel_rfl)
#print axioms workerRunsCard_holds
end Go.Proofs.YtkgajppghpmkbaaDoor
