/- THE STATEMENT WorkerRefusesCardSaid IS PROVED (the tied card): for every input the law returns true, and what was there before the call is as it was. The listed tables read as the program's text lays them; the card ties that to the text. -/
import Derived.Test.YtkgajppghpmkbaaDoorRows
import Derived.Test.YtkgajppghpmkbaaDoorCards
import Derived.Test.YtkgajppghpmkbaaDoorTie
import Derived.Test.YtkgajppghpmkbaaDoorLaid
import Derived.Test.YtkgajppghpmkbaaDoorW1
import Derived.Test.YtkgajppghpmkbaaDoorD1
import Derived.Test.YtkgajppghpmkbaaDoorK1WorkerRefuses
set_option linter.unusedVariables false
set_option linter.unusedSimpArgs false
namespace Go.Proofs.YtkgajppghpmkbaaDoor
open Go.Sx Go.ChangeShapes Go.WideShapes Go.ChangeAt Go.RowKit

theorem workerRefuses_met (os : Os) : laidMet Tryd.prog Rows.workerRefusesRow.laid ((laidWorld Tryd.prog os [(0, (laidCells (H := Unit) Rows.laid_tappet_ops_forms).getD []), (1, (laidCells (H := Unit) Rows.laid_tappet_sigs_table).getD [])]).forCall (fun _ _ => 0) ⟨#[], #[.agg #[.int .i64 0, .int .u64 0, .int .u64 0, .slice none 0 0, .slice none 0 0, .slice none 0 0], .slice none 0 0], []⟩).memory :=
  laidMet_of_run' 8 (by kernel_rfl) (by kernel_rfl)
set_option maxRecDepth 100000 in
theorem workerRefuses_lifted (os : Os) (started : os.Started) (H : Type) (enc : TypeId × Value → H) (F : Stop.Interp) :
    ReturnsInHanded {} Tryd.checked os 3 .any ((OpenSpec.ofChange Rows.workerRefusesSpec).preRow enc Tryd.prog Tryd.f3 Rows.workerRefusesRow.domain false Rows.workerRefusesRow.laid) (((OpenSpec.ofChange Rows.workerRefusesSpec).at F).post enc Tryd.prog Tryd.f3 false true false false) := by
  obtain ⟨x, hx⟩ : ∃ x, DataW.whole enc Tryd.prog ((laidWorld Tryd.prog os [(0, (laidCells (H := Unit) Rows.laid_tappet_ops_forms).getD []), (1, (laidCells (H := Unit) Rows.laid_tappet_sigs_table).getD [])]).forCall (fun _ _ => 0) ⟨#[], #[.agg #[.int .i64 0, .int .u64 0, .int .u64 0, .slice none 0 0, .slice none 0 0, .slice none 0 0], .slice none 0 0], []⟩).memory Tryd.f3.params.toList Rows.workerRefusesSpec.vars false (#[.agg #[.int .i64 0, .int .u64 0, .int .u64 0, .slice none 0 0, .slice none 0 0, .slice none 0 0], .slice none 0 0] : Array Value).toList 8 = some x := Option.isSome_iff_exists.1 (by kernel_rfl)
  refine lawRow_lifted (C := Tryd.checked) (tb := 4) H enc (by kernel_rfl) started (by kernel_rfl) Tryd.func3
    (witness_row_at (enc := enc) (C := Tryd.checked) false (laidWorld Tryd.prog os [(0, (laidCells (H := Unit) Rows.laid_tappet_ops_forms).getD []), (1, (laidCells (H := Unit) Rows.laid_tappet_sigs_table).getD [])]) #[.agg #[.int .i64 0, .int .u64 0, .int .u64 0, .slice none 0 0, .slice none 0 0, .slice none 0 0], .slice none 0 0] rfl (by kernel_rfl) (by kernel_rfl) (by kernel_rfl)
      (OpenSpec.preRow_of_cond 8 hx (by rfl) (fun k hk => by cases hk) (by kernel_rfl) (workerRefuses_met os)))
    (by kernel_rfl) rfl (by kernel_rfl) rfl (by kernel_rfl) ?_ ?_
  · intro ds hl
    match ds, hl with
    | [d0, d1], _ => exact ⟨rfl, rfl, rfl⟩
  · intro W base args ds ps hL hval0 hA0 hw0
    have hval : ∀ (j : Nat) t v, Tryd.f3.params[j]? = some t → args[j]? = some v → Value.okWide Tryd.prog W .any base t v := hval0
    have hA : DataW.TrodAll enc Tryd.prog W 0 (fun _ => true) true [31, 25] args.toList ds ps := hA0
    have hw : ∀ n ∈ DataW.weightsEach Tryd.prog [31, 25] ds, n ≤ reachBytes := hw0
    clear hval0 hA0 hw0
    obtain ⟨args⟩ := args
    obtain ⟨v0, vs0, ds0, ps0, e0, k0, hA, hw⟩ := Go.Sx.trodAll_cons hA hw
    obtain ⟨v1, vs1, ds1, ps1, e1, k1, hA, hw⟩ := Go.Sx.trodAll_cons hA hw
    have en := Go.Sx.trodAll_nil hA
    have ea : args = [v0, v1] := by rw [show args = _ from e0, e1, en]
    subst ea
    obtain ⟨a0, ⟨us0, c0, q0⟩, g0⟩ := k0 _ _ _ dec_tappetlaw23_Event
    obtain ⟨_, _, rfl, ⟨v0_0, rfl, m0_0⟩, ⟨_, _, rfl, ⟨v0_1, rfl, m0_1⟩, ⟨v0_2, rfl, m0_2⟩⟩⟩ := q0
    have f0 : v0 = .agg [.int .i64 a0.Hook, .int .u64 a0.E.A, .int .u64 a0.E.B, v0_0, v0_1, v0_2].toArray := cell_agg (P := Tryd.prog) (w := W) (hval 0 31 v0 rfl rfl) c0 (by kernel_rfl)
    subst f0
    obtain ⟨a1, ⟨u1, c1, m1⟩, g1⟩ := k1 _ _ _ (Dec.slice (t := 25) (e := 3) (sz := 1) (bytes := 8) (Dec.int (t := 3) (k := .i64) (by kernel_rfl)) (by kernel_rfl) (by kernel_rfl) (by decide) (by kernel_rfl))
    have f1 := cell_val (P := Tryd.prog) (w := W) (hval 1 25 v1 rfl rfl) c1 (.inr (.inr (.inr ⟨3, by kernel_rfl⟩)))
    subst f1
    obtain ⟨fu, hfu⟩ := workerRefuses_true a0 a1 g0 g1
    have t0 : Rd W (fp []) (.slice (some ⟨0, 0, none⟩) 23 23) enc_ops_form 2 tab_g0 := laid_rd (t := 195) (enc := enc_ops_form) (sz := 2) (xs := tab_g0) (m := 23) 0 5 hL rfl (by kernel_rfl) (by kernel_rfl) (by kernel_rfl) (by kernel_rfl) (fun _ => rfl) (by kernel_rfl) (by kernel_rfl)
    have t1 : Rd W (fp []) (.slice (some ⟨1, 0, none⟩) 7 7) enc_sigs_sig 5 tab_g1 := laid_rd (t := 196) (enc := enc_sigs_sig) (sz := 5) (xs := tab_g1) (m := 7) 1 5 hL rfl (by kernel_rfl) (by kernel_rfl) (by kernel_rfl) (by kernel_rfl) (fun _ => rfl) (by kernel_rfl) (by kernel_rfl)
    exact (tappetlaw23_WorkerRefuses_ok W fu v0_0 v0_1 v0_2 a0 v1 a1 true hfu (St.zero W) m0_0 m0_1 m0_2 m1 t0 t1).mono fun e w' ⟨he, hst⟩ => ⟨he, hst.chg⟩

theorem workerRefuses_said : Rows.WorkerRefusesSaid :=
  OpenClaim.holds_of_cond 3 Tryd.f3 rfl rfl rfl rfl rfl rfl rfl ⟨rfl, rfl, rfl, rfl, rfl⟩ rfl rfl rfl rfl rfl (by kernel_rfl) Tryd.func3 (by kernel_rfl)
    (of_decide_eq_true (by kernel_rfl)) (by unfold Func.isWrapper; first | (rw [if_pos (by decide +kernel)]; kernel_rfl) | (rw [if_neg (by decide +kernel)]; exact ⟨rfl, rfl⟩))
    (fun os started H enc _ F => by rw [OpenClaim.pre_eq_preRow]; exact workerRefuses_lifted os started H enc F)
theorem workerRefuses_plain (f : FuncId) (fn : Func) (hf : Tryd.pinned.checked.prog.funcNamed "tappet/tappetlaw23.WorkerRefuses" = some f) (hfn : Tryd.pinned.checked.prog.funcs[f]? = some fn) :
    false = Tryd.pinned.checked.prog.looks [] ∧ ∀ (j : Nat) t, fn.params[j]? = some t → Tryd.pinned.checked.prog.wantsStandIn t = false := by
  obtain rfl : f = 3 := Option.some.inj ((show Tryd.prog.funcNamed "tappet/tappetlaw23.WorkerRefuses" = some 3 by kernel_rfl).symm.trans hf) |>.symm
  obtain rfl : fn = Tryd.f3 := (Option.some.inj (Tryd.func3.symm.trans hfn)).symm
  refine ⟨by kernel_rfl, fun j t ht => ?_⟩
  have ht2 : t ∈ Tryd.f3.params := Array.mem_of_getElem? ht
  rw [Tryd.params3] at ht2
  simp only [List.mem_toArray, List.mem_cons, List.not_mem_nil, or_false] at ht2
  rcases ht2 with rfl | rfl
  · exact (show Tryd.prog.wantsStandIn 31 = false by kernel_rfl)
  · exact (show Tryd.prog.wantsStandIn 25 = false by kernel_rfl)
theorem workerRefusesCard_holds : Rows.WorkerRefusesCardSaid :=
  Claim7.holds_tied_plain_at .later [] _ _ _ _ workerRefuses_said (fun _ h => by cases h) (by kernel_rfl) (fun _ h => by cases h) workerRefuses_row_tie rfl ⟨rfl, rfl⟩ (by kernel_rfl) rfl workerRefuses_plain (by kernel_rfl)
#print axioms workerRefusesCard_holds
end Go.Proofs.YtkgajppghpmkbaaDoor
