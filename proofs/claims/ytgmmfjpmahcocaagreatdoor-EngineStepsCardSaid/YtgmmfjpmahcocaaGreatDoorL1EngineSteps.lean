/- THE STATEMENT EngineStepsCardSaid IS PROVED (the tied card): for every input the law returns true, and what was there before the call is as it was. The listed tables read as the program's text lays them; the card ties that to the text. -/
import Derived.Test.YtgmmfjpmahcocaaGreatDoorRows
import Derived.Test.YtgmmfjpmahcocaaGreatDoorCards
import Derived.Test.YtgmmfjpmahcocaaGreatDoorTie
import Derived.Test.YtgmmfjpmahcocaaGreatDoorGlue
import Derived.Test.YtgmmfjpmahcocaaGreatDoorW1
import Derived.Test.YtgmmfjpmahcocaaGreatDoorD1
import Derived.Test.YtgmmfjpmahcocaaGreatDoorKTr3
set_option linter.unusedVariables false
set_option linter.unusedSimpArgs false
namespace Go.Proofs.YtgmmfjpmahcocaaGreatDoor
open Go.Sx Go.ChangeShapes Go.WideShapes Go.ChangeAt Go.RowKit
theorem engineSteps_met (os : Os) : laidMet Tryz.prog Rows.engineStepsRow.laid ((laidWorld Tryz.prog os [(0, (laidCells (H := Unit) Rows.laid_tappet_ops_forms).getD []), (1, (laidCells (H := Unit) Rows.laid_tappet_sigs_table).getD [])]).forCall (fun _ _ => 0) ⟨#[], #[.agg #[.slice none 0 0, .slice none 0 0, .int .u64 0, .int .u64 0, .slice none 0 0, .int .i64 0]], []⟩).memory :=
 laidMet_of_run' 8 (by kernel_rfl) (by kernel_rfl)
set_option maxRecDepth 100000 in
theorem engineSteps_lifted (os : Os) (started : os.Started) (H : Type) (enc : TypeId × Value -> H) (F : Stop.Interp) :
  ReturnsInHanded {} Tryz.checked os 4 .any ((OpenSpec.ofChange Rows.engineStepsSpec).preRow enc Tryz.prog Tryz.f4 Rows.engineStepsRow.domain false Rows.engineStepsRow.laid) (((OpenSpec.ofChange Rows.engineStepsSpec).at F).post enc Tryz.prog Tryz.f4 false true false false) := by
 obtain ⟨x, hx⟩ : ∃ x, DataW.whole enc Tryz.prog ((laidWorld Tryz.prog os [(0, (laidCells (H := Unit) Rows.laid_tappet_ops_forms).getD []), (1, (laidCells (H := Unit) Rows.laid_tappet_sigs_table).getD [])]).forCall (fun _ _ => 0) ⟨#[], #[.agg #[.slice none 0 0, .slice none 0 0, .int .u64 0, .int .u64 0, .slice none 0 0, .int .i64 0]], []⟩).memory Tryz.f4.params.toList Rows.engineStepsSpec.vars false (#[.agg #[.slice none 0 0, .slice none 0 0, .int .u64 0, .int .u64 0, .slice none 0 0, .int .i64 0]] : Array Value).toList 8 = some x := Option.isSome_iff_exists.1 (by kernel_rfl)
 refine lawRow_lifted (C := Tryz.checked) (tb := 4) H enc (by kernel_rfl) started (by kernel_rfl) Tryz.func4
  (witness_row_at (enc := enc) (C := Tryz.checked) false (laidWorld Tryz.prog os [(0, (laidCells (H := Unit) Rows.laid_tappet_ops_forms).getD []), (1, (laidCells (H := Unit) Rows.laid_tappet_sigs_table).getD [])]) #[.agg #[.slice none 0 0, .slice none 0 0, .int .u64 0, .int .u64 0, .slice none 0 0, .int .i64 0]] rfl (by kernel_rfl) (by kernel_rfl) (by kernel_rfl)
   (OpenSpec.preRow_of_cond 8 hx (by rfl) (fun k hk => by cases hk) (by kernel_rfl) (engineSteps_met os)))
  (by kernel_rfl) rfl (by kernel_rfl) rfl (by kernel_rfl) ?_ ?_
 ·intro ds hl
  match ds, hl with
  | [d0], _ => exact ⟨rfl, rfl, rfl⟩
 ·intro W base args ds ps hL hval0 hA0 hw0
  have hval : ∀ (j : Nat) t v, Tryz.f4.params[j]? = some t -> args[j]? = some v -> Value.okWide Tryz.prog W .any base t v := hval0
  have hA : DataW.TrodAll enc Tryz.prog W 0 (fun _ => true) true [31] args.toList ds ps := hA0
  have hw : ∀ n ∈ DataW.weightsEach Tryz.prog [31] ds, n <= reachBytes := hw0
  clear hval0 hA0 hw0
  obtain ⟨args⟩ := args
  obtain ⟨v0, vs0, ds0, ps0, e0, k0, hA, hw⟩ := Go.Sx.trodAll_cons hA hw
  have en := Go.Sx.trodAll_nil hA
  have ea : args = [v0] := by rw [show args = _ from e0, en]
  subst ea
  obtain ⟨a0, ⟨us0, c0, q0⟩, g0⟩ := k0 _ _ _ dec_tappetlaw11_Run
  obtain ⟨_, _, rfl, ⟨v0_0, rfl, m0_0⟩, ⟨_, _, rfl, ⟨v0_1, rfl, m0_1⟩, ⟨v0_2, rfl, m0_2⟩⟩⟩ := q0
  have f0 : v0 = .agg [v0_0, v0_1, .int .u64 a0.E.A, .int .u64 a0.E.B, v0_2, .int .i64 a0.Odd].toArray := cell_agg (P := Tryz.prog) (w := W) (hval 0 31 v0 rfl rfl) c0 (by kernel_rfl)
  subst f0
  obtain ⟨fu, hfu⟩ := engineSteps_true a0 g0
  have t0 : Rd W (fp []) (.slice (some ⟨0, 0, none⟩) 23 23) enc_ops_form 2 tab_g0 := laid_rd (t := 209) (enc := enc_ops_form) (sz := 2) (xs := tab_g0) (m := 23) 0 5 hL rfl (by kernel_rfl) (by kernel_rfl) (by kernel_rfl) (by kernel_rfl) (fun _ => rfl) (by kernel_rfl) (by kernel_rfl)
  have t1 : Rd W (fp []) (.slice (some ⟨1, 0, none⟩) 7 7) enc_sigs_sig 5 tab_g1 := laid_rd (t := 227) (enc := enc_sigs_sig) (sz := 5) (xs := tab_g1) (m := 7) 1 5 hL rfl (by kernel_rfl) (by kernel_rfl) (by kernel_rfl) (by kernel_rfl) (fun _ => rfl) (by kernel_rfl) (by kernel_rfl)
  exact (tappetlaw11_EngineSteps_ok W W (fp []) fu v0_0 v0_1 v0_2 a0 true hfu (St.zero W) (Bor.refl _ _) m0_0 m0_1 m0_2 t0 t1).mono fun e w' ⟨he, hst⟩ => ⟨he, hst.chg⟩
theorem engineSteps_said : Rows.EngineStepsSaid :=
 OpenClaim.holds_of_cond 4 Tryz.f4 rfl rfl rfl rfl rfl rfl rfl ⟨rfl, rfl, rfl, rfl, rfl⟩ rfl rfl rfl rfl rfl (by kernel_rfl) Tryz.func4 (by kernel_rfl)
  (of_decide_eq_true (by kernel_rfl)) (by unfold Func.isWrapper; first | (rw [if_pos (by decide +kernel)]; kernel_rfl) | (rw [if_neg (by decide +kernel)]; exact ⟨rfl, rfl⟩))
  (fun os started H enc _ F => by rw [OpenClaim.pre_eq_preRow]; exact engineSteps_lifted os started H enc F)
theorem engineSteps_plain (f : FuncId) (fn : Func) (hf : Tryz.pinned.checked.prog.funcNamed "tappet/tappetlaw11.EngineSteps" = some f) (hfn : Tryz.pinned.checked.prog.funcs[f]? = some fn) :
  false = Tryz.pinned.checked.prog.looks [] /\ ∀ (j : Nat) t, fn.params[j]? = some t -> Tryz.pinned.checked.prog.wantsStandIn t = false := by
 obtain rfl : f = 4 := Option.some.inj ((show Tryz.prog.funcNamed "tappet/tappetlaw11.EngineSteps" = some 4 by kernel_rfl).symm.trans hf) |>.symm
 obtain rfl : fn = Tryz.f4 := (Option.some.inj (Tryz.func4.symm.trans hfn)).symm
 refine ⟨by kernel_rfl, fun j t ht => ?_⟩
 have ht2 : t ∈ Tryz.f4.params := Array.mem_of_getElem? ht
 rw [Tryz.params4] at ht2
 simp only [List.mem_toArray, List.mem_cons, List.not_mem_nil, or_false] at ht2
 subst ht2
 exact (show Tryz.prog.wantsStandIn 31 = false by kernel_rfl)
theorem engineStepsCard_holds : Rows.EngineStepsCardSaid :=
 Claim7.holds_tied_plain_at .later [] _ _ _ _ engineSteps_said (fun _ h => by cases h) (by kernel_rfl) (fun _ h => by cases h) engineSteps_row_tie rfl ⟨rfl, rfl⟩ (by kernel_rfl) rfl engineSteps_plain (by kernel_rfl)
#print axioms engineStepsCard_holds
end Go.Proofs.YtgmmfjpmahcocaaGreatDoor
