/- THE STATEMENT JudgeAgainCardSaid IS PROVED (the tied card): for every input the law returns true, and what was there before the call is as it was. The listed tables read as the program's text lays them; the card ties that to the text. -/
import Derived.Test.YtojemiffchkkdaaDoorRows
import Derived.Test.YtojemiffchkkdaaDoorCards
import Derived.Test.YtojemiffchkkdaaDoorTie
import Derived.Test.YtojemiffchkkdaaDoorLaid
import Derived.Test.YtojemiffchkkdaaDoorW1
import Derived.Test.YtojemiffchkkdaaDoorD1
import Derived.Test.YtojemiffchkkdaaDoorK1JudgeAgain
set_option linter.unusedVariables false
namespace Go.Proofs.YtojemiffchkkdaaDoor
open Go.Sx Go.ChangeShapes Go.WideShapes Go.ChangeAt Go.RowKit

theorem judgeAgain_met (os : Os) : laidMet Tryd.prog Rows.judgeAgainRow.laid ((laidWorld Tryd.prog os [(0, (laidCells (H := Unit) Rows.laid_tappet_ops_forms).getD []), (1, (laidCells (H := Unit) Rows.laid_tappet_sigs_table).getD [])]).forCall (fun _ _ => 0) ⟨#[], #[.agg #[.slice none 0 0, .slice none 0 0], .int .i64 0], []⟩).memory :=
  laidMet_of_run' 8 (by kernel_rfl) (by kernel_rfl)
set_option maxRecDepth 100000 in
theorem judgeAgain_lifted (os : Os) (started : os.Started) (H : Type) (enc : TypeId × Value → H) (F : Stop.Interp) :
    ReturnsInHanded {} Tryd.checked os 4 .any ((OpenSpec.ofChange Rows.judgeAgainSpec).preRow enc Tryd.prog Tryd.f4 Rows.judgeAgainRow.domain false Rows.judgeAgainRow.laid) (((OpenSpec.ofChange Rows.judgeAgainSpec).at F).post enc Tryd.prog Tryd.f4 false true false false) := by
  obtain ⟨x, hx⟩ : ∃ x, DataW.whole enc Tryd.prog ((laidWorld Tryd.prog os [(0, (laidCells (H := Unit) Rows.laid_tappet_ops_forms).getD []), (1, (laidCells (H := Unit) Rows.laid_tappet_sigs_table).getD [])]).forCall (fun _ _ => 0) ⟨#[], #[.agg #[.slice none 0 0, .slice none 0 0], .int .i64 0], []⟩).memory Tryd.f4.params.toList Rows.judgeAgainSpec.vars false (#[.agg #[.slice none 0 0, .slice none 0 0], .int .i64 0] : Array Value).toList 8 = some x := Option.isSome_iff_exists.1 (by kernel_rfl)
  refine lawRow_lifted (C := Tryd.checked) (tb := 4) H enc (by kernel_rfl) started (by kernel_rfl) Tryd.func4
    (witness_row_at (enc := enc) (C := Tryd.checked) false (laidWorld Tryd.prog os [(0, (laidCells (H := Unit) Rows.laid_tappet_ops_forms).getD []), (1, (laidCells (H := Unit) Rows.laid_tappet_sigs_table).getD [])]) #[.agg #[.slice none 0 0, .slice none 0 0], .int .i64 0] rfl (by kernel_rfl) (by kernel_rfl) (by kernel_rfl)
      (OpenSpec.preRow_of_cond 8 hx (by rfl) (fun k hk => by cases hk) (by kernel_rfl) (judgeAgain_met os)))
    (by kernel_rfl) rfl (by kernel_rfl) rfl (by kernel_rfl) ?_ ?_
  · intro ds hl
    match ds, hl with
    | [d0, d1], _ => exact ⟨rfl, rfl, rfl⟩
  · intro W base args ds ps hL hval0 hA0 hw0
    have hval : ∀ (j : Nat) t v, Tryd.f4.params[j]? = some t → args[j]? = some v → Value.okWide Tryd.prog W .any base t v := hval0
    have hA : DataW.TrodAll enc Tryd.prog W 0 (fun _ => true) true [25, 3] args.toList ds ps := hA0
    have hw : ∀ n ∈ DataW.weightsEach Tryd.prog [25, 3] ds, n ≤ reachBytes := hw0
    clear hval0 hA0 hw0
    obtain ⟨args⟩ := args
    obtain ⟨v0, vs0, ds0, ps0, e0, k0, hA, hw⟩ := Go.Sx.trodAll_cons hA hw
    obtain ⟨v1, vs1, ds1, ps1, e1, k1, hA, hw⟩ := Go.Sx.trodAll_cons hA hw
    have en := Go.Sx.trodAll_nil hA
    have ea : args = [v0, v1] := by rw [show args = _ from e0, e1, en]
    subst ea
    obtain ⟨a0, ⟨us0, c0, q0⟩, g0⟩ := k0 _ _ _ dec_api_Module
    obtain ⟨_, _, rfl, ⟨v0_0, rfl, m0_0⟩, ⟨v0_1, rfl, m0_1⟩⟩ := q0
    have f0 : v0 = .agg [v0_0, v0_1].toArray := cell_agg (P := Tryd.prog) (w := W) (hval 0 25 v0 rfl rfl) c0 (by kernel_rfl)
    subst f0
    obtain ⟨a1, c1, g1⟩ := k1 _ _ _ (Dec.int (t := 3) (k := .i64) (by kernel_rfl))
    have f1 := cell_val (P := Tryd.prog) (w := W) (hval 1 3 v1 rfl rfl) c1 (.inl ⟨.i64, by kernel_rfl⟩)
    subst f1
    obtain ⟨fu, hfu⟩ := judgeAgain_true a0 a1 g0 g1
    have t0 : Rd W (fp []) (.slice (some ⟨0, 0, none⟩) 23 23) enc_ops_form 2 tab_g0 := laid_rd (t := 118) (enc := enc_ops_form) (sz := 2) (xs := tab_g0) (m := 23) 0 5 hL rfl (by kernel_rfl) (by kernel_rfl) (by kernel_rfl) (by kernel_rfl) (fun _ => rfl) (by kernel_rfl) (by kernel_rfl)
    have t1 : Rd W (fp []) (.slice (some ⟨1, 0, none⟩) 7 7) enc_sigs_sig 5 tab_g1 := laid_rd (t := 119) (enc := enc_sigs_sig) (sz := 5) (xs := tab_g1) (m := 7) 1 5 hL rfl (by kernel_rfl) (by kernel_rfl) (by kernel_rfl) (by kernel_rfl) (fun _ => rfl) (by kernel_rfl) (by kernel_rfl)
    exact (tappetlaw09_JudgeAgain_ok W fu v0_0 v0_1 a0 a1 true hfu (St.zero W) m0_0 m0_1 t0 t1).mono fun e w' ⟨he, hst⟩ => ⟨he, hst.chg⟩

theorem judgeAgain_said : Rows.JudgeAgainSaid :=
  OpenClaim.holds_of_cond 4 Tryd.f4 rfl rfl rfl rfl rfl rfl rfl ⟨rfl, rfl, rfl, rfl, rfl⟩ rfl rfl rfl rfl rfl (by kernel_rfl) Tryd.func4 (by kernel_rfl)
    (of_decide_eq_true (by kernel_rfl)) (by unfold Func.isWrapper; first | (rw [if_pos (by decide +kernel)]; kernel_rfl) | (rw [if_neg (by decide +kernel)]; exact ⟨rfl, rfl⟩))
    (fun os started H enc _ F => by rw [OpenClaim.pre_eq_preRow]; exact judgeAgain_lifted os started H enc F)
theorem judgeAgain_plain (f : FuncId) (fn : Func) (hf : Tryd.pinned.checked.prog.funcNamed "tappet/tappetlaw09.JudgeAgain" = some f) (hfn : Tryd.pinned.checked.prog.funcs[f]? = some fn) :
    false = Tryd.pinned.checked.prog.looks [] ∧ ∀ (j : Nat) t, fn.params[j]? = some t → Tryd.pinned.checked.prog.wantsStandIn t = false := by
  obtain rfl : f = 4 := Option.some.inj ((show Tryd.prog.funcNamed "tappet/tappetlaw09.JudgeAgain" = some 4 by kernel_rfl).symm.trans hf) |>.symm
  obtain rfl : fn = Tryd.f4 := (Option.some.inj (Tryd.func4.symm.trans hfn)).symm
  refine ⟨by kernel_rfl, fun j t ht => ?_⟩
  have ht2 : t ∈ Tryd.f4.params := Array.mem_of_getElem? ht
  rw [Tryd.params4] at ht2
  simp only [List.mem_toArray, List.mem_cons, List.not_mem_nil, or_false] at ht2
  rcases ht2 with rfl | rfl
  · exact (show Tryd.prog.wantsStandIn 25 = false by kernel_rfl)
  · exact (show Tryd.prog.wantsStandIn 3 = false by kernel_rfl)
theorem judgeAgainCard_holds : Rows.JudgeAgainCardSaid :=
  Claim7.holds_tied_plain_at .later [] _ _ _ _ judgeAgain_said (fun _ h => by cases h) (by kernel_rfl) (fun _ h => by cases h) judgeAgain_row_tie rfl ⟨rfl, rfl⟩ (by kernel_rfl) rfl judgeAgain_plain (by kernel_rfl)
#print axioms judgeAgainCard_holds
end Go.Proofs.YtojemiffchkkdaaDoor
