/- THE STATEMENT EngineApartCardSaid IS PROVED (the tied card): for every input the law returns true, and what was there before the call is as it was. The listed tables read as the program's text lays them; the card ties that to the text. -/
import Derived.Test.YtgmmfjpmahcocaaDoorRows
import Derived.Test.YtgmmfjpmahcocaaDoorCards
import Derived.Test.YtgmmfjpmahcocaaDoorTie
import Derived.Test.YtgmmfjpmahcocaaDoorLaid
import Derived.Test.YtgmmfjpmahcocaaDoorW1
import Derived.Test.YtgmmfjpmahcocaaDoorD1
import Derived.Test.YtgmmfjpmahcocaaDoorK1EngineApart
set_option linter.unusedVariables false
namespace Go.Proofs.YtgmmfjpmahcocaaDoor
open Go.Sx Go.ChangeShapes Go.WideShapes Go.ChangeAt Go.RowKit

theorem engineApart_met (os : Os) : laidMet Tryd.prog Rows.engineApartRow.laid ((laidWorld Tryd.prog os [(1, (laidCells (H := Unit) Rows.laid_tappet_ops_forms).getD []), (0, (laidCells (H := Unit) Rows.laid_tappet_sigs_table).getD [])]).forCall (fun _ _ => 0) ⟨#[], #[.agg #[.slice none 0 0, .slice none 0 0, .int .u64 0, .int .u64 0, .slice none 0 0, .int .i64 0], .agg #[.slice none 0 0, .slice none 0 0, .int .u64 0, .int .u64 0, .slice none 0 0, .int .i64 0]], []⟩).memory :=
  laidMet_of_run' 8 (by kernel_rfl) (by kernel_rfl)
set_option maxRecDepth 100000 in
theorem engineApart_lifted (os : Os) (started : os.Started) (H : Type) (enc : TypeId × Value → H) (F : Stop.Interp) :
    ReturnsInHanded {} Tryd.checked os 3 .any ((OpenSpec.ofChange Rows.engineApartSpec).preRow enc Tryd.prog Tryd.f3 Rows.engineApartRow.domain false Rows.engineApartRow.laid) (((OpenSpec.ofChange Rows.engineApartSpec).at F).post enc Tryd.prog Tryd.f3 false true false false) := by
  obtain ⟨x, hx⟩ : ∃ x, DataW.whole enc Tryd.prog ((laidWorld Tryd.prog os [(1, (laidCells (H := Unit) Rows.laid_tappet_ops_forms).getD []), (0, (laidCells (H := Unit) Rows.laid_tappet_sigs_table).getD [])]).forCall (fun _ _ => 0) ⟨#[], #[.agg #[.slice none 0 0, .slice none 0 0, .int .u64 0, .int .u64 0, .slice none 0 0, .int .i64 0], .agg #[.slice none 0 0, .slice none 0 0, .int .u64 0, .int .u64 0, .slice none 0 0, .int .i64 0]], []⟩).memory Tryd.f3.params.toList Rows.engineApartSpec.vars false (#[.agg #[.slice none 0 0, .slice none 0 0, .int .u64 0, .int .u64 0, .slice none 0 0, .int .i64 0], .agg #[.slice none 0 0, .slice none 0 0, .int .u64 0, .int .u64 0, .slice none 0 0, .int .i64 0]] : Array Value).toList 8 = some x := Option.isSome_iff_exists.1 (by kernel_rfl)
  refine lawRow_lifted (C := Tryd.checked) (tb := 4) H enc (by kernel_rfl) started (by kernel_rfl) Tryd.func3
    (witness_row_at (enc := enc) (C := Tryd.checked) false (laidWorld Tryd.prog os [(1, (laidCells (H := Unit) Rows.laid_tappet_ops_forms).getD []), (0, (laidCells (H := Unit) Rows.laid_tappet_sigs_table).getD [])]) #[.agg #[.slice none 0 0, .slice none 0 0, .int .u64 0, .int .u64 0, .slice none 0 0, .int .i64 0], .agg #[.slice none 0 0, .slice none 0 0, .int .u64 0, .int .u64 0, .slice none 0 0, .int .i64 0]] rfl (by kernel_rfl) (by kernel_rfl) (by kernel_rfl)
      (OpenSpec.preRow_of_cond 8 hx (by rfl) (fun k hk => by cases hk) (by kernel_rfl) (engineApart_met os)))
    (by kernel_rfl) rfl (by kernel_rfl) rfl (by kernel_rfl) ?_ ?_
  · intro ds hl
    match ds, hl with
    | [d0, d1], _ => exact ⟨rfl, rfl, rfl⟩
  · intro W base args ds ps hL hval0 hA0 hw0
    have hval : ∀ (j : Nat) t v, Tryd.f3.params[j]? = some t → args[j]? = some v → Value.okWide Tryd.prog W .any base t v := hval0
    have hA : DataW.TrodAll enc Tryd.prog W 0 (fun _ => true) true [31, 31] args.toList ds ps := hA0
    have hw : ∀ n ∈ DataW.weightsEach Tryd.prog [31, 31] ds, n ≤ reachBytes := hw0
    clear hval0 hA0 hw0
    obtain ⟨args⟩ := args
    obtain ⟨v0, vs0, ds0, ps0, e0, k0, hA, hw⟩ := Go.Sx.trodAll_cons hA hw
    obtain ⟨v1, vs1, ds1, ps1, e1, k1, hA, hw⟩ := Go.Sx.trodAll_cons hA hw
    have en := Go.Sx.trodAll_nil hA
    have ea : args = [v0, v1] := by rw [show args = _ from e0, e1, en]
    subst ea
    obtain ⟨a0, ⟨us0, c0, q0⟩, g0⟩ := k0 _ _ _ dec_tappetlaw11_Run
    obtain ⟨_, _, rfl, ⟨v0_0, rfl, m0_0⟩, ⟨_, _, rfl, ⟨v0_1, rfl, m0_1⟩, ⟨v0_2, rfl, m0_2⟩⟩⟩ := q0
    have f0 : v0 = .agg [v0_0, v0_1, .int .u64 a0.E.A, .int .u64 a0.E.B, v0_2, .int .i64 a0.Odd].toArray := cell_agg (P := Tryd.prog) (w := W) (hval 0 31 v0 rfl rfl) c0 (by kernel_rfl)
    subst f0
    obtain ⟨a1, ⟨us1, c1, q1⟩, g1⟩ := k1 _ _ _ dec_tappetlaw11_Run
    obtain ⟨_, _, rfl, ⟨v1_0, rfl, m1_0⟩, ⟨_, _, rfl, ⟨v1_1, rfl, m1_1⟩, ⟨v1_2, rfl, m1_2⟩⟩⟩ := q1
    have f1 : v1 = .agg [v1_0, v1_1, .int .u64 a1.E.A, .int .u64 a1.E.B, v1_2, .int .i64 a1.Odd].toArray := cell_agg (P := Tryd.prog) (w := W) (hval 1 31 v1 rfl rfl) c1 (by kernel_rfl)
    subst f1
    obtain ⟨fu, hfu⟩ := engineApart_true a0 a1 g0 g1
    have t0 : Rd W (fp []) (.slice (some ⟨0, 0, none⟩) 7 7) enc_sigs_sig 5 tab_g0 := laid_rd (t := 152) (enc := enc_sigs_sig) (sz := 5) (xs := tab_g0) (m := 7) 1 5 hL rfl (by kernel_rfl) (by kernel_rfl) (by kernel_rfl) (by kernel_rfl) (fun _ => rfl) (by kernel_rfl) (by kernel_rfl)
    have t1 : Rd W (fp []) (.slice (some ⟨1, 0, none⟩) 23 23) enc_ops_form 2 tab_g1 := laid_rd (t := 171) (enc := enc_ops_form) (sz := 2) (xs := tab_g1) (m := 23) 0 5 hL rfl (by kernel_rfl) (by kernel_rfl) (by kernel_rfl) (by kernel_rfl) (fun _ => rfl) (by kernel_rfl) (by kernel_rfl)
    exact (tappetlaw11_EngineApart_ok W fu v0_0 v0_1 v0_2 a0 v1_0 v1_1 v1_2 a1 true hfu (St.zero W) m0_0 m0_1 m0_2 m1_0 m1_1 m1_2 t0 t1).mono fun e w' ⟨he, hst⟩ => ⟨he, hst.chg⟩

theorem engineApart_said : Rows.EngineApartSaid :=
  OpenClaim.holds_of_cond 3 Tryd.f3 rfl rfl rfl rfl rfl rfl rfl ⟨rfl, rfl, rfl, rfl, rfl⟩ rfl rfl rfl rfl rfl (by kernel_rfl) Tryd.func3 (by kernel_rfl)
    (of_decide_eq_true (by kernel_rfl)) (by unfold Func.isWrapper; first | (rw [if_pos (by decide +kernel)]; kernel_rfl) | (rw [if_neg (by decide +kernel)]; exact ⟨rfl, rfl⟩))
    (fun os started H enc _ F => by rw [OpenClaim.pre_eq_preRow]; exact engineApart_lifted os started H enc F)
theorem engineApart_plain (f : FuncId) (fn : Func) (hf : Tryd.pinned.checked.prog.funcNamed "tappet/tappetlaw11.EngineApart" = some f) (hfn : Tryd.pinned.checked.prog.funcs[f]? = some fn) :
    false = Tryd.pinned.checked.prog.looks [] ∧ ∀ (j : Nat) t, fn.params[j]? = some t → Tryd.pinned.checked.prog.wantsStandIn t = false := by
  obtain rfl : f = 3 := Option.some.inj ((show Tryd.prog.funcNamed "tappet/tappetlaw11.EngineApart" = some 3 by kernel_rfl).symm.trans hf) |>.symm
  obtain rfl : fn = Tryd.f3 := (Option.some.inj (Tryd.func3.symm.trans hfn)).symm
  refine ⟨by kernel_rfl, fun j t ht => ?_⟩
  have ht2 : t ∈ Tryd.f3.params := Array.mem_of_getElem? ht
  rw [Tryd.params3] at ht2
  simp only [List.mem_toArray, List.mem_cons, List.not_mem_nil, or_false] at ht2
  rcases ht2 with rfl | rfl
  · exact (show Tryd.prog.wantsStandIn 31 = false by kernel_rfl)
  · exact (show Tryd.prog.wantsStandIn 31 = false by kernel_rfl)
theorem engineApartCard_holds : Rows.EngineApartCardSaid :=
  Claim7.holds_tied_plain_at .later [] _ _ _ _ engineApart_said (fun _ h => by cases h) (by kernel_rfl) (fun _ h => by cases h) engineApart_row_tie rfl ⟨rfl, rfl⟩ (by kernel_rfl) rfl engineApart_plain (by kernel_rfl)
#print axioms engineApartCard_holds
end Go.Proofs.YtgmmfjpmahcocaaDoor
